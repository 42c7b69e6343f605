-- Written by this session's own program wip/xprint.py: a changed copy of the kit's print.
import Derived.Test.YtdaofffedfccmaaDoorXGlobFitsx0
import Derived.Test.YtdaofffedfccmaaDoorXGlobFitsx1
namespace Go.Proofs.YtdaofffedfccmaaDoor.XGlobFits
open Go.RowKit Go.Proofs.YtdaofffedfccmaaDoorW.PrintWords Go.Proofs.YtdaofffedfccmaaDoorW.PrintLast Go.Proofs.YtdaofffedfccmaaDoorW.PrintMore
attribute [local go_sem] max2_int min2_int max_two min_two max_three min_three max_four min_four   -- for this text's walks alone
set_option linter.unusedVariables false
set_option linter.unusedSimpArgs false

/-! ### glob_fit: function 57 -/
-- rounds: no making: yes
-- uses:
open XGlob
/-- The test's answer, and J kept. -/
def WalkEnd (p : Prop) (J : World → Prop) (e : Ending) (w : World) : Prop := ∃ b, e = .returned (.bool b) ∧ (b = true ↔ p) ∧ J w
theorem WalkEnd.mk {p : Prop} {J : World → Prop} {e : Ending} {w : World} (b : Bool) (he : e = .returned (.bool b)) (hb : b = true ↔ p) (hj : J w) : WalkEnd p J e w := ⟨b, he, hb, hj⟩
set_option maxHeartbeats 1600000 in
set_option maxRecDepth 100000 in
/-- glob.walk over whatever two tests that answer as many and fits say and keep J. -/
theorem walk_any (many : Nat → Bool) (fits : Nat → Nat → Bool) (J : World → Prop) (w : World) (n m : Nat) (hn : n ≤ 4611686018427387904) (hm : m ≤ 4611686018427387904) (g2 g3 : Nat) (lb2 lb3 : Array Value)
    (e2 : ∀ args w, (callFunc g2 args).run Tryd.prog w = .ok (.enter g2 args) w) (e3 : ∀ args w, (callFunc g3 args).run Tryd.prog w = .ok (.enter g3 args) w)
    (h2 : ∀ (W : World) (i : Nat), J W → i < n → Calls Tryd.prog g2 (#[.int .i64 i] ++ lb2) W fun e w' => e = .returned (.bool (many i)) ∧ J w')
    (h3 : ∀ (W : World) (i k : Nat), J W → i < n → k < m → many i = false → Calls Tryd.prog g3 (#[.int .i64 i, .int .i64 k] ++ lb3) W fun e w' => e = .returned (.bool (fits i k)) ∧ J w') (hJ : J w) :
    Calls Tryd.prog 54 #[.int .i64 n, .int .i64 m, .func (.func g2) #[] lb2, .func (.func g3) #[] lb3] w fun e w' => WalkEnd (Mt many fits n m 0 0) J e w' := by
  have H2 : Aside _ := h2
  have H3 : Aside _ := h3
  clear h2 h3
  go_enter Tryd.func54, Tryd.ntmps54
  go_wp2
  go_loopg [9, 10, 11, 12] (lx n m 0 0 0) (fun gg v9 v10 v11 v12 wr => ∃ (i k s fr : Nat) (z : Int), v9 = .int .i64 (i : Int) ∧ v10 = .int .i64 (k : Int) ∧ v11 = .int .i64 z ∧ v12 = .int .i64 (fr : Int) ∧ z = (s : Int) - 1 ∧ lx n m s fr k ≤ gg ∧ i ≤ n ∧ k ≤ m ∧ fr ≤ k ∧ s ≤ i ∧ Aside (St many fits n m i k s fr) ∧ Aside (J wr))
  case atStart => exact ⟨0, 0, 0, 0, -1, rfl, rfl, rfl, rfl, rfl, Nat.le_refl _, Nat.zero_le _, Nat.zero_le _, Nat.zero_le _, Nat.zero_le _, .inl ⟨rfl, rfl, Nat.zero_le _, Nat.zero_le _, Iff.rfl⟩, hJ⟩
  case round =>
    obtain ⟨i, k, s, fr, z, rfl, rfl, rfl, rfl, hz, hg, b1, b2, b3, b4, hS, hW⟩ := hrel
    by_cases hk : k < m
    · have hkz : (k : Int) < (m : Int) := by omega
      by_cases hi : i < n
      · have hiz : (i : Int) < (n : Int) := by omega
        have c2 := H2.out wr i hW.out hi
        cases q2 : many i with
        | true =>
          rw [q2] at c2
          have Q : Aside (many i = true) := q2
          clear q2
          go_wp2_with fail
          refine c2.mono ?_; rintro e w' ⟨rfl, JW⟩
          clear c2
          go_wp2
          go_roundg (lx n m (i + 1) k k)
          case measure => exact Nat.lt_of_lt_of_le (lx_star (by omega) (by omega) b3) hg
          case rel => exact ⟨i + 1, k, i + 1, k, i, by go_num, rfl, rfl, rfl, by omega, Nat.le_refl _, by omega, b2, Nat.le_refl _, Nat.le_refl _, St.star hS.out hi Q.out, JW⟩
        | false =>
          rw [q2] at c2
          have Q : Aside (many i = false) := q2
          clear q2
          go_wp2_with fail
          refine c2.mono ?_; rintro e w' ⟨rfl, JW⟩
          clear c2
          have c3 := H3.out w' i k JW hi hk Q.out
          cases q3 : fits i k with
          | true =>
            rw [q3] at c3
            have Q3 : Aside (fits i k = true) := q3
            clear q3
            go_wp2_with fail
            refine c3.mono ?_; rintro e w'' ⟨rfl, JW⟩
            clear c3
            go_wp2
            go_roundg (lx n m s fr (k + 1))
            case measure => exact Nat.lt_of_lt_of_le (lx_one hk) hg
            case rel => exact ⟨i + 1, k + 1, s, fr, (s : Int) - 1, by go_num, by go_num, rfl, rfl, rfl, Nat.le_refl _, by omega, by omega, by omega, by omega, St.one hS.out hi hk Q.out Q3.out, JW⟩
          | false =>
            rw [q3] at c3
            have HX : Aside (i = n ∨ (many i = false ∧ fits i k = false)) := .inr ⟨Q.out, q3⟩
            clear q3
            go_wp2_with fail
            refine c3.mono ?_; rintro e w'' ⟨rfl, JW⟩
            clear c3
            by_cases hs : 0 < s
            · have hz0 : (0 : Int) ≤ z := by omega
              go_wp2
              go_roundg (lx n m s (fr + 1) (fr + 1))
              case measure => exact Nat.lt_of_lt_of_le (lx_miss (by omega)) hg
              case rel => exact ⟨s, fr + 1, s, fr + 1, (s : Int) - 1, by go_num, by go_num, rfl, by go_num, rfl, Nat.le_refl _, by omega, by omega, Nat.le_refl _, Nat.le_refl _, St.miss hS.out hs hk HX.out, JW⟩
            · have hz0 : ¬ (0 : Int) ≤ z := by omega
              go_wp2
              go_ret
              exact WalkEnd.mk false rfl ⟨fun h => (by cases h), fun h => absurd h (St.none hS.out (by omega) hk HX.out)⟩ JW
      · have hiz : ¬ (i : Int) < (n : Int) := by omega
        have HX : Aside (i = n ∨ (many i = false ∧ fits i k = false)) := .inl (by omega)
        have JW := hW.out
        by_cases hs : 0 < s
        · have hz0 : (0 : Int) ≤ z := by omega
          go_wp2
          go_roundg (lx n m s (fr + 1) (fr + 1))
          case measure => exact Nat.lt_of_lt_of_le (lx_miss (by omega)) hg
          case rel => exact ⟨s, fr + 1, s, fr + 1, (s : Int) - 1, by go_num, by go_num, rfl, by go_num, rfl, Nat.le_refl _, by omega, by omega, Nat.le_refl _, Nat.le_refl _, St.miss hS.out hs hk HX.out, JW⟩
        · have hz0 : ¬ (0 : Int) ≤ z := by omega
          go_wp2
          go_ret
          exact WalkEnd.mk false rfl ⟨fun h => (by cases h), fun h => absurd h (St.none hS.out (by omega) hk HX.out)⟩ JW
    · have hkz : ¬ (k : Int) < (m : Int) := by omega
      have hkm : k = m := by omega
      subst hkm
      have HF : Aside _ := St.fin hS.out
      clear hg b3 hS hk
      go_wp2
      go_loopg [9] (n - i) (fun gg v9 wr => ∃ (x : Nat), v9 = .int .i64 (x : Int) ∧ n - x ≤ gg ∧ i ≤ x ∧ x ≤ n ∧ Aside (∀ y, i ≤ y → y < x → many y = true) ∧ Aside (J wr))
      case atStart => exact ⟨i, rfl, Nat.le_refl _, Nat.le_refl _, b1, fun y a b => by omega, hW⟩
      case round =>
        obtain ⟨x, rfl, hg, d1, d2, hA, hW⟩ := hrel
        by_cases hx : x < n
        · have hxz : (x : Int) < (n : Int) := by omega
          have c2 := H2.out wr x hW.out hx
          cases q2 : many x with
          | true =>
            rw [q2] at c2
            have Q : Aside (many x = true) := q2
            clear q2
            go_wp2_with fail
            refine c2.mono ?_; rintro e w' ⟨rfl, JW⟩
            clear c2
            go_wp2
            go_roundg (n - (x + 1))
            case measure => omega
            case rel => exact ⟨x + 1, by go_num, Nat.le_refl _, by omega, by omega, fun y a b => by
              by_cases e : y = x
              · subst e; exact Q.out
              · exact hA.out y a (by omega), JW⟩
          | false =>
            rw [q2] at c2
            have Q : Aside (many x = false) := q2
            clear q2
            go_wp2_with fail
            refine c2.mono ?_; rintro e w' ⟨rfl, JW⟩
            clear c2
            have hne : ¬ (x : Int) = (n : Int) := by omega
            go_wp2
            go_ret
            exact WalkEnd.mk false (by show Ending.returned (Value.bool (decide ((x : Int) = (n : Int)))) = _; rw [decide_eq_false hne]) ⟨fun h => (by cases h), fun h => (by have := HF.out.1 h x d1 hx; rw [Q.out] at this; cases this)⟩ JW
        · have hxz : ¬ (x : Int) < (n : Int) := by omega
          have hxn : x = n := by omega
          subst hxn
          go_wp2
          go_ret
          exact WalkEnd.mk true rfl ⟨fun _ => HF.out.2 fun y a b => hA.out y a b, fun _ => rfl⟩ hW.out
theorem btn_at (s : ByteArray) (k : Nat) (h : k < s.size) : bt s k = ((s[k]'h).toNat : Int) := by
  simp [bt, h]
set_option maxHeartbeats 1600000 in
set_option maxRecDepth 100000 in
/-- glob.fit$1: is the piece a star? -/
theorem clo_many (W : World) (p2 : Addr) (A : Option Addr) (c : Nat) (l : List S124) (hp : W.cell? p2 = some (.slice A l.length c)) (hk : Kd.C k124 W A l.length l) (hc : l.length ≤ c) (i : Nat) (hi : i < l.length) :
    Calls Tryd.prog 100 #[.int .i64 i, .pointer (some p2)] W fun e w' => e = .returned (.bool (decide ((rd_T124 l i).f0 = 2))) ∧ w' = W := by
  have hu124 := Tryd.underlying124
  obtain ⟨ad, rfl, l0, l1⟩ := at_T124 hk (i : Int) (by omega) (by omega)
  have hz : (i : Int) < (l.length : Int) := by omega
  have hz0 : (0 : Int) ≤ (i : Int) := by omega
  rw [show (i : Int).toNat = i from rfl] at l0 l1
  clear hk
  generalize rd_T124 l i = x at l0 l1
  go_enter Tryd.func100, Tryd.ntmps100
  go_wp2
  go_ret
  exact ⟨rfl, rfl⟩
set_option maxHeartbeats 1600000 in
set_option maxRecDepth 100000 in
/-- glob.fit$2: does the piece fit the byte? -/
theorem clo_fits (W : World) (p2 p3 : Addr) (A : Option Addr) (c : Nat) (l : List S124) (s : ByteArray) (hp : W.cell? p2 = some (.slice A l.length c)) (hp3 : W.cell? p3 = some (.string s)) (hk : Kd.C k124 W A l.length l) (hc : l.length ≤ c) (i k : Nat) (hi : i < l.length) (hs : k < s.size) :
    Calls Tryd.prog 101 #[.int .i64 i, .int .i64 k, .pointer (some p2), .pointer (some p3)] W fun e w' => e = .returned (.bool (decide ((rd_T124 l i).f0 = 1) || decide ((rd_T124 l i).f1 = bt s k))) ∧ ∃ n, w' = W.drewN n := by
  have hu124 := Tryd.underlying124
  obtain ⟨ad, rfl, l0, l1⟩ := at_T124 hk (i : Int) (by omega) (by omega)
  have hz : (i : Int) < (l.length : Int) := by omega
  have hz0 : (0 : Int) ≤ (i : Int) := by omega
  have hs1 : (k : Int) < (s.size : Int) := by omega
  have hs0 : (0 : Int) ≤ (k : Int) := by omega
  rw [show (i : Int).toNat = i from rfl] at l0 l1
  clear hk
  generalize rd_T124 l i = x at l0 l1
  by_cases h1 : x.f0 = 1
  · have hd : decide (x.f0 = 1) = true := decide_eq_true h1
    go_enter Tryd.func101, Tryd.ntmps101
    go_wp2
    go_quiet (fail)
    go_wp2
    go_ret
    exact ⟨by rw [hd]; rfl, nq, rfl⟩
  · have hd : decide (x.f0 = 1) = false := decide_eq_false h1
    go_enter Tryd.func101, Tryd.ntmps101
    go_wp2
    go_quiet (fail)
    go_wp2
    go_ret
    exact ⟨by rw [btn_at s k hs]; rfl, nq, rfl⟩

set_option maxHeartbeats 1600000 in
set_option maxRecDepth 100000 in
/-- glob.fit: the pieces fit the bytes. -/
theorem fit_calls (w : World) (A : Option Addr) (c : Nat) (l : List S124) (s : ByteArray) (hk : Kd.C k124 w A l.length l) (hc : l.length ≤ c) (hl : l.length ≤ 4611686018427387904) (hs : s.size ≤ 4611686018427387904) :
    Calls Tryd.prog 57 #[.slice A l.length c, .string s] w fun e w' => WalkEnd (Mt (fun i => decide ((rd_T124 l i).f0 = 2)) (fun i k => decide ((rd_T124 l i).f0 = 1) || decide ((rd_T124 l i).f1 = bt s k)) l.length s.size 0 0) (Below w.heap.size w) e w' := by
  have c1 := walk_any (fun i => decide ((rd_T124 l i).f0 = 2)) (fun i k => decide ((rd_T124 l i).f0 = 1) || decide ((rd_T124 l i).f1 = bt s k))
    (fun W => Below w.heap.size w W ∧ W.cell? ⟨w.heap.size, 0, none⟩ = some (.slice A l.length c) ∧ W.cell? ⟨w.heap.size + 1, 0, none⟩ = some (.string s))
    ((w.alloc (Obj.cells #[Value.slice A l.length c] 71)).alloc (Obj.cells #[Value.string s] 9)) l.length s.size hl hs 100 101 #[Value.pointer (some { block := w.heap.size, off := 0 })] #[Value.pointer (some { block := w.heap.size, off := 0 }), Value.pointer (some { block := w.heap.size + 1, off := 0 })]
    (Go.Proofs.enters_of Tryd.func100 (by kernel_rfl) rfl) (Go.Proofs.enters_of Tryd.func101 (by kernel_rfl) rfl)
    (fun W i hJ hi => (clo_many W _ A c l hJ.2.1 (Kd.C_below hk hJ.1) hc i hi).mono (by
      rintro e w' ⟨rfl, rfl⟩
      exact ⟨rfl, hJ⟩))
    (fun W i k hJ hi hk2 _ => (clo_fits W _ _ A c l s hJ.2.1 hJ.2.2 (Kd.C_below hk hJ.1) hc i k hi hk2).mono (by
      rintro e w' ⟨rfl, nq, rfl⟩
      exact ⟨rfl, pw_below_drewN hJ.1 nq, hJ.2.1, hJ.2.2⟩))
    ⟨below_alloc (below_alloc (Below.refl _ _) _) _, by simp, by simp⟩
  have C1 : Aside _ := c1
  clear c1 hk
  go_enter Tryd.func57, Tryd.ntmps57
  go_wp2_with fail
  refine Calls.mono C1.out ?_
  rintro e w' ⟨b, rfl, hb, hJ⟩
  go_wp2
  go_ret
  exact WalkEnd.mk b rfl hb hJ.1

/-- Do the pieces fit the text? -/
def pfitB (l : List S124) (s : ByteArray) : Bool := mtAll (fun i => decide ((rd_T124 l i).f0 = 2)) (fun i k => decide ((rd_T124 l i).f0 = 1) || decide ((rd_T124 l i).f1 = bt s k)) l.length s.size
def glob_fit.f (l0 : List S124) (a1 : ByteArray) : Option Bool := if l0.length ≤ 4611686018427387904 ∧ a1.size ≤ 4611686018427387904 then some (pfitB l0 a1) else none
theorem glob_fit.calls (A0 : Option Addr) (c0 : Nat) (l0 : List S124) (a1 : ByteArray) (r : Bool) (w : World) (hr0 : Kd.C k124 w A0 l0.length l0) (hc0 : l0.length ≤ c0) (h : glob_fit.f l0 a1 = some r) :
    Calls Tryd.prog 57 #[.slice A0 l0.length c0, .string a1] w fun e w' => e = .returned (.bool r) ∧ Below w.heap.size w w' := by
  unfold glob_fit.f at h
  by_cases hc : l0.length ≤ 4611686018427387904 ∧ a1.size ≤ 4611686018427387904
  · rw [if_pos hc] at h
    obtain rfl := Option.some.inj h
    refine (fit_calls w A0 c0 l0 a1 hr0 hc0 hc.1 hc.2).mono ?_
    rintro e w' ⟨b, rfl, hb, hw⟩
    have e1 : b = pfitB l0 a1 := by
      rw [Bool.eq_iff_iff, hb]
      exact mtAll_iff.symm
    rw [e1]
    exact ⟨rfl, hw⟩
  · rw [if_neg hc] at h
    cases h


/-! ### glob_Fits: function 16 -/
-- rounds: yes making: yes
-- uses: montage/glob.Check montage/route.Parts montage/glob.pieces montage/glob.fit
/-- How the pieces fit a text. -/
def PFit (l : List S124) (s : ByteArray) : Prop := Mt (fun i => decide ((rd_T124 l i).f0 = 2)) (fun i k => decide ((rd_T124 l i).f0 = 1) || decide ((rd_T124 l i).f1 = bt s k)) l.length s.size 0 0
theorem pfit_iff {l : List S124} {s : ByteArray} : pfitB l s = true ↔ PFit l s := mtAll_iff
set_option maxHeartbeats 1600000 in
set_option maxRecDepth 100000 in
/-- glob.Fits$1: is the part '**'? -/
theorem clo_wide (W : World) (p2 : Addr) (A : Option Addr) (c : Nat) (l : List ByteArray) (hp : W.cell? p2 = some (.slice A l.length c)) (hk : Kd.C Kd.string W A l.length l) (hc : l.length ≤ c) (i : Nat) (hi : i < l.length) :
    Calls Tryd.prog 55 #[.int .i64 i, .pointer (some p2)] W fun e w' => e = .returned (.bool ((rdOf ByteArray.empty l i).toList == [42, 42])) ∧ w' = W := by
  obtain ⟨ad, rfl, l0⟩ := Kd.at_string hk (i : Int) (by omega) (by omega)
  have hz : (i : Int) < (l.length : Int) := by omega
  have hz0 : (0 : Int) ≤ (i : Int) := by omega
  rw [show (i : Int).toNat = i from rfl] at l0
  clear hk
  generalize rdOf ByteArray.empty l i = x at l0
  go_enter Tryd.func55, Tryd.ntmps55
  go_wp2
  go_ret
  exact ⟨rfl, rfl⟩
set_option maxHeartbeats 1600000 in
set_option maxRecDepth 100000 in
/-- glob.Fits$2: does the part fit the text? -/
theorem clo_part (W : World) (p2 p3 : Addr) (pa : Addr) (n cn : Nat) (B : Option Addr) (c cr : Nat) (A : Option Addr) (xs : List ByteArray) (l : List S124) (i k : Nat) (hi : i < n) (hcn : n ≤ cn) (hp2 : W.cell? p2 = some (.slice (some pa) n cn)) (hrow : W.cell? (pa.add i) = some (.slice A l.length cr)) (hk : Kd.C k124 W A l.length l) (hcr : l.length ≤ cr) (hl : l.length ≤ 4611686018427387904)
    (hp3 : W.cell? p3 = some (.slice B xs.length c)) (hx : Kd.C Kd.string W B xs.length xs) (hc : xs.length ≤ c) (hkk : k < xs.length) (hs : (rdOf ByteArray.empty xs k).size ≤ 4611686018427387904) :
    Calls Tryd.prog 56 #[.int .i64 i, .int .i64 k, .pointer (some p2), .pointer (some p3)] W fun e w' => WalkEnd (PFit l (rdOf ByteArray.empty xs k)) (Below W.heap.size W) e w' := by
  obtain ⟨ad, rfl, l0⟩ := Kd.at_string hx (k : Int) (by omega) (by omega)
  have hz : (i : Int) < (n : Int) := by omega
  have hz0 : (0 : Int) ≤ (i : Int) := by omega
  have hy : (k : Int) < (xs.length : Int) := by omega
  have hy0 : (0 : Int) ≤ (k : Int) := by omega
  rw [show (k : Int).toNat = k from rfl] at l0
  clear hx
  generalize rdOf ByteArray.empty xs k = x at l0 hs
  have HF : Aside _ := fun nq => fit_calls (W.drewN nq) A cr l x (Kd.C_drewN hk nq) hcr hl hs
  clear hk
  go_enter Tryd.func56, Tryd.ntmps56
  go_wp2
  go_region_with (go_at_call 57; refine Calls.mono (HF.out _) ?_; rintro e w1 ⟨b, rfl, hq, hb⟩)
  all_goals go_wp2
  all_goals go_ret
  all_goals exact WalkEnd.mk b rfl hq (below_step (pw_below_drewN (Below.refl _ _) _) hb)
theorem add_head (g i : Nat) : (⟨g, 0, none⟩ : Addr).add i = ⟨g, i, none⟩ := by
  unfold Addr.add
  by_cases h : i = 0
  · rw [if_pos h, h]
  · rw [if_neg h, Nat.zero_add]
/-- The pieces of part i. -/
def psAt (ps : List (List S124)) (i : Nat) : List S124 := ps.getD i []
/-- The parts' pieces that are laid so far: t of them, each a row of its own, none in block g. -/
def PRows (g base : Nat) (ps : List (List S124)) (t : Nat) (W : World) : Prop := ∀ i, i < t → ∃ v, W.cell? ⟨g, i, none⟩ = some v ∧ Kd.R k124 124 W base (fun k => k ≠ g) v (psAt ps i)
structure PInv (w : World) (g b5 b6 b7 n : Nat) (v5 v6 : Value) (l q : List ByteArray) (ps : List (List S124)) (t : Nat) (W : World) : Prop where
  below : Below w.heap.size w W
  hg : w.heap.size ≤ g
  hlt : g < W.heap.size
  n5 : b5 ≠ g
  n6 : b6 ≠ g
  n7 : b7 ≠ g
  r5 : Kd.R Kd.string 9 W w.heap.size (fun k => k ≠ g) v5 l
  r6 : Kd.R Kd.string 9 W w.heap.size (fun k => k ≠ g) v6 q
  c5 : W.cell? ⟨b5, 0, none⟩ = some v5
  c6 : W.cell? ⟨b6, 0, none⟩ = some v6
  c7 : W.cell? ⟨b7, 0, none⟩ = some (.slice (some ⟨g, 0, none⟩) n n)
  room : ∀ j, j < n → (∃ u, W.cell? ⟨g, j, none⟩ = some u) ∧ W.frozen? ⟨g, j, none⟩ = false
  rows : PRows g w.heap.size ps t W
theorem lt_cell {W : World} {b j : Nat} {v : Value} (h : W.cell? ⟨b, j, none⟩ = some v) : b < W.heap.size := World.block_lt_of_cell? W _ h
theorem PInv.step {w : World} {g b5 b6 b7 n : Nat} {v5 v6 : Value} {l q : List ByteArray} {ps : List (List S124)} {t : Nat} {W W' : World} (h : PInv w g b5 b6 b7 n v5 v6 l q ps t W) (hb : Below W.heap.size W W') : PInv w g b5 b6 b7 n v5 v6 l q ps t W' where
  below := below_step h.below hb
  hg := h.hg
  hlt := Nat.lt_of_lt_of_le h.hlt hb.size
  n5 := h.n5
  n6 := h.n6
  n7 := h.n7
  r5 := Kd.R_below h.r5 hb
  r6 := Kd.R_below h.r6 hb
  c5 := (hb.cell (p := ⟨b5, 0, none⟩) (lt_cell h.c5)).trans h.c5
  c6 := (hb.cell (p := ⟨b6, 0, none⟩) (lt_cell h.c6)).trans h.c6
  c7 := (hb.cell (p := ⟨b7, 0, none⟩) (lt_cell h.c7)).trans h.c7
  room := fun j hj => ⟨(h.room j hj).1.imp fun u hu => (hb.cell (p := ⟨g, j, none⟩) h.hlt).trans hu, (hb.frozen (p := ⟨g, j, none⟩) h.hlt).trans (h.room j hj).2⟩
  rows := fun i hi => by
    obtain ⟨v, hv, hr⟩ := h.rows i hi
    exact ⟨v, (hb.cell (p := ⟨g, i, none⟩) h.hlt).trans hv, Kd.R_below hr hb⟩
theorem PInv.put {w : World} {g b5 b6 b7 n : Nat} {v5 v6 : Value} {l q : List ByteArray} {ps : List (List S124)} {t : Nat} {W : World} (h : PInv w g b5 b6 b7 n v5 v6 l q ps t W) (ht : t < n) {v : Value} (hv : Kd.R k124 124 W w.heap.size (fun k => k ≠ g) v (psAt ps t)) : PInv w g b5 b6 b7 n v5 v6 l q ps (t + 1) (W.setCell ⟨g, t, none⟩ v) where
  below := below_set h.below h.hg
  hg := h.hg
  hlt := by rw [World.size_setCell]; exact h.hlt
  n5 := h.n5
  n6 := h.n6
  n7 := h.n7
  r5 := Kd.R_far h.r5 (fun k hk => hk) v
  r6 := Kd.R_far h.r6 (fun k hk => hk) v
  c5 := (World.cell?_setCell_other _ _ _ _ (fun e => h.n5 (congrArg Addr.block e).symm)).trans h.c5
  c6 := (World.cell?_setCell_other _ _ _ _ (fun e => h.n6 (congrArg Addr.block e).symm)).trans h.c6
  c7 := (World.cell?_setCell_other _ _ _ _ (fun e => h.n7 (congrArg Addr.block e).symm)).trans h.c7
  room := fun j hj => by
    obtain ⟨⟨u, hu⟩, hf⟩ := h.room j hj
    obtain ⟨u0, hu0⟩ := (h.room t ht).1
    exact ⟨cell?_setCell_some (w := W) (p := ⟨g, t, none⟩) (x := v) (q := ⟨g, j, none⟩) hu, by rw [World.frozen?_setCell]; exact hf⟩
  rows := fun i hi => by
    obtain ⟨u0, hu0⟩ := (h.room t ht).1
    by_cases e : i = t
    · subst e
      exact ⟨v, World.cell?_setCell_same _ _ _ hu0, Kd.R_far hv (fun k hk => hk) v⟩
    · obtain ⟨v', hv', hr⟩ := h.rows i (by omega)
      exact ⟨v', (World.cell?_setCell_other _ _ _ _ (fun e2 => e (congrArg Addr.off e2).symm)).trans hv', Kd.R_far hr (fun k hk => hk) v⟩

theorem PInv.start {w W4 w5 : World} {b5 b6 n : Nat} {v5 v6 : Value} {l q : List ByteArray} (ps : List (List S124)) {xs : List Value} (B4 : Below w.heap.size w W4) (h5 : Kd.R Kd.string 9 W4 w.heap.size (fun _ => True) v5 l) (h6 : Kd.R Kd.string 9 W4 w.heap.size (fun _ => True) v6 q)
    (c5 : W4.cell? ⟨b5, 0, none⟩ = some v5) (c6 : W4.cell? ⟨b6, 0, none⟩ = some v6) (own : w5.ownsRow W4.heap.size 71 1 (.slice (some ⟨W4.heap.size, 0, none⟩) n n) n xs) (grow : W4.grownBy w5 none) :
    PInv w W4.heap.size b5 b6 w5.heap.size n v5 v6 l q ps 0 (w5.alloc (.cells #[.slice (some ⟨W4.heap.size, 0, none⟩) n n] 77)) := by
  have hb : Below W4.heap.size W4 w5 := (Below.refl _ _).grown grow (Nat.le_refl _) (fun k h => by cases h)
  have hlt : W4.heap.size < w5.heap.size := (own.lt W4.heap.size rfl).2
  have hb2 : Below W4.heap.size W4 (w5.alloc (.cells #[.slice (some ⟨W4.heap.size, 0, none⟩) n n] 77)) := below_alloc hb _
  have l5 := lt_cell c5
  have l6 := lt_cell c6
  have e5 := Kd.R_mono (Kd.R_bound h5) (ok' := fun k => k ≠ W4.heap.size) (fun k hk => Nat.ne_of_lt hk.2.2.1)
  have e6 := Kd.R_mono (Kd.R_bound h6) (ok' := fun k => k ≠ W4.heap.size) (fun k hk => Nat.ne_of_lt hk.2.2.1)
  refine ⟨below_step B4 hb2, B4.size, by simp; omega, Nat.ne_of_lt l5, Nat.ne_of_lt l6, Nat.ne_of_gt hlt, Kd.R_below e5 hb2, Kd.R_below e6 hb2, (hb2.cell (p := ⟨b5, 0, none⟩) l5).trans c5, (hb2.cell (p := ⟨b6, 0, none⟩) l6).trans c6, by simp, fun j hj => ?_, fun i hi => absurd hi (Nat.not_lt_zero _)⟩
  have o2 := own.alloc (.cells #[.slice (some ⟨W4.heap.size, 0, none⟩) n n] 77)
  refine ⟨?_, o2.frozenAt j⟩
  rw [o2.cellAt j (by omega)]
  have hl : j < xs.length := by rw [o2.1]; omega
  exact ⟨_, List.getElem?_eq_getElem hl⟩
theorem info71 : (Tryd.prog.info? 71).map (fun i => (i.zero, i.size, i.bytes)) = some (some (.slice none 0 0), 1, 24) := by kernel_rfl
theorem PInv.row {w : World} {g b5 b6 b7 n : Nat} {v5 v6 : Value} {l q : List ByteArray} {ps : List (List S124)} {t : Nat} {W w1 : World} (h : PInv w g b5 b6 b7 n v5 v6 l q ps t W) {nq : Nat} {v : Value} {xs : List S124} (hv : Kd.R k124 124 w1 (W.drewN nq).heap.size (fun _ => True) v xs) : Kd.R k124 124 w1 w.heap.size (fun k => k ≠ g) v xs := by
  have h1 := h.hlt
  have h2 := h.hg
  have h3 : (W.drewN nq).heap.size = W.heap.size := by simp
  rw [h3] at hv
  exact Kd.R_lower (Kd.R_mono (Kd.R_bound hv) (fun k hk => Nat.ne_of_gt (Nat.lt_of_lt_of_le h1 hk.2.1))) (by omega)
def wideB (l : List ByteArray) (i : Nat) : Bool := (rdOf ByteArray.empty l i).toList == [42, 42]
theorem mt_congr {many many' : Nat → Bool} {fits fits' : Nat → Nat → Bool} {n m : Nat} (h1 : ∀ i, i < n → many i = many' i) (h2 : ∀ i k, i < n → k < m → many i = false → fits i k = fits' i k) : ∀ {i k}, Mt many fits n m i k → Mt many' fits' n m i k := by
  intro i k h
  induction h with
  | done => exact .done
  | skip i k a b c ih => exact .skip i k a (by rw [← h1 i a]; exact b) ih
  | eat i k a b c d ih => exact .eat i k a (by rw [← h1 i a]; exact b) c ih
  | one i k a b c d e ih => exact .one i k a (by rw [← h1 i a]; exact b) c (by rw [← h2 i k a c b]; exact d) ih
set_option maxHeartbeats 3200000 in
set_option maxRecDepth 100000 in
/-- glob.Fits of a pattern that may be. -/
theorem fits_yes (w : World) (k : Nat) (a0 a1 : ByteArray) (l q : List ByteArray) (ps : List (List S124)) (hch : glob_Check.f k a0 = some 0) (hl : route_Parts.f a0 = some l) (hq : route_Parts.f a1 = some q)
    (hp : ∀ i, i < l.length → ∃ b, glob_pieces.f k (rdOf ByteArray.empty l i) = some (psAt ps i, b)) (n1 : l.length ≤ 1048576) (n2 : q.length ≤ 1048576) (n3 : ∀ i, (psAt ps i).length ≤ 4611686018427387904) (n4 : ∀ i : Nat, (rdOf ByteArray.empty q i).size ≤ 4611686018427387904) :
    Calls Tryd.prog 16 #[.string a0, .string a1] w fun e w' => WalkEnd (Mt (wideB l) (fun i k => pfitB (psAt ps i) (rdOf ByteArray.empty q k)) l.length q.length 0 0) (Below w.heap.size w) e w' := by
  have k1 := glob_Check.calls k a0 0 w hch
  go_enter Tryd.func16, Tryd.ntmps16
  go_wp2_with fail
  refine Calls.mono k1 ?_
  rintro e w1 ⟨rfl, hb1⟩
  clear k1
  have k2 := route_Parts.calls a0 l w1 hl
  go_wp2_with fail
  refine Calls.mono k2 ?_
  rintro e w2 ⟨v5, rfl, hr5, hb2⟩
  clear k2
  have k3 := route_Parts.calls a1 q w2 hq
  go_wp2_with fail
  refine Calls.mono k3 ?_
  rintro e w3 ⟨v6, rfl, hr6, hb3⟩
  clear k3
  obtain ⟨A5, z5, rfl⟩ := Kd.R_slice hr5
  obtain ⟨A6, z6, rfl⟩ := Kd.R_slice hr6
  have R5 := Aside0.mk (Kd.R_lower (Kd.R_below hr5 hb3) (below_size hb1))
  have R6 := Aside0.mk (Kd.R_lower hr6 (below_size (below_step hb1 hb2)))
  have B3 := Aside0.mk (below_step (below_step hb1 hb2) hb3)
  have s3 := B3.out.size
  clear hr5 hr6 hb1 hb2 hb3 hch hl hq
  have HP := Aside0.mk hp
  clear hp
  go_upto_region 4 with (fail)
  generalize hW4 : ((w3.alloc (.cells #[.slice A5 l.length z5] 56)).alloc (.cells #[.slice A6 q.length z6] 56)) = W4
  have c5 : W4.cell? ⟨w3.heap.size, 0, none⟩ = some (.slice A5 l.length z5) := by subst hW4; simp
  have c6 : W4.cell? ⟨w3.heap.size + 1, 0, none⟩ = some (.slice A6 q.length z6) := by subst hW4; simp
  have E5 : Aside0 (Kd.R Kd.string 9 W4 w.heap.size (fun _ => True) (.slice A5 l.length z5) l) := by subst hW4; exact ⟨Kd.R_alloc (Kd.R_alloc R5.out _) _⟩
  have E6 : Aside0 (Kd.R Kd.string 9 W4 w.heap.size (fun _ => True) (.slice A6 q.length z6) q) := by subst hW4; exact ⟨Kd.R_alloc (Kd.R_alloc R6.out _) _⟩
  have B4 : Aside0 (Below w.heap.size w W4) := by subst hW4; exact ⟨below_alloc (below_alloc B3.out _) _⟩
  clear hW4 R5 R6 B3
  generalize w3.heap.size = b5 at *
  obtain ⟨i0, hi, hz0, hz1, hz2⟩ := info_parts info71
  go_wp2_with ((with_reducible refine gate_dst (N := 19) rfl ?_); refine wpList_make_full _ rfl (.tmp 18) (.tmp 18) 77 rfl W4.heap.size 71 i0 _ 1 Tryd.underlying77 hi hz0 hz1 .i64 .i64 _ _ l.length rfl rfl rfl rfl (by rw [hz2]; omega) (by unfold maxLen; omega) (Nat.le_refl _) ?_; intro w5 own grow; have HI := Aside0.mk (PInv.start ps B4.out E5.out E6.out c5 c6 own grow); clear own grow c5 c6 hi hz0 hz1 hz2; have c50 := HI.out.c5)
  clear c50 B4 E5 E6
  generalize W4.heap.size = g at *
  generalize w5.heap.size = b7 at *
  go_loopg [22] l.length (fun gg v22 W => ∃ t : Nat, v22 = .int .i64 (t : Int) ∧ l.length - t ≤ gg ∧ t ≤ l.length ∧ Aside0 (PInv w g b5 (b5 + 1) b7 l.length (.slice A5 l.length z5) (.slice A6 q.length z6) l q ps t W))
  case atStart => exact ⟨0, rfl, Nat.le_refl _, Nat.zero_le _, HI⟩
  case round =>
    clear HI
    obtain ⟨t, rfl, hg, ht, HI⟩ := hrel
    by_cases h : t < l.length
    · have hz : (t : Int) < (l.length : Int) := by omega
      have hz0 : (0 : Int) ≤ (t : Int) := by omega
      obtain ⟨ad, e5, l0⟩ := Kd.at_string (Kd.R_reads' HI.out.r5).2.2 (t : Int) (by omega) (by omega)
      cases e5
      rw [show (t : Int).toNat = t from rfl] at l0
      obtain ⟨b, hpb⟩ := HP.out t h
      have HF : Aside0 (∀ nq, _) := ⟨fun nq => glob_pieces.calls k (rdOf ByteArray.empty l t) (psAt ps t) b (wr.drewN nq) hpb⟩
      clear hpb
      generalize hx : rdOf ByteArray.empty l (t : Int) = x at l0 HF
      clear hx
      have c7 := HI.out.c7
      have ⟨⟨u, cu⟩, cf⟩ := HI.out.room t h
      go_upto_region 8 with (fail)
      go_region_with (go_at_call 51; refine Calls.mono (HF.out _) ?_; rintro e w1 ⟨v, rfl, hv, hb⟩; obtain ⟨A, c, rfl⟩ := Kd.R_slice hv; have P1 := Aside0.mk ((HI.out.step (pw_below_drewN (Below.refl _ _) _)).step hb); have V1 := Aside0.mk (HI.out.row hv); have d7 := P1.out.c7; obtain ⟨⟨u1, cu1⟩, cf1⟩ := P1.out.room t h; clear hv hb)
      all_goals go_wp2
      all_goals go_roundg (l.length - (t + 1))
      case measure => omega
      case rel => exact ⟨t + 1, by go_num, Nat.le_refl _, by omega, ⟨P1.out.put h V1.out⟩⟩
      case measure => omega
      case rel => exact ⟨t + 1, by go_num, Nat.le_refl _, by omega, ⟨P1.out.put h V1.out⟩⟩
    · have hz : ¬ (t : Int) < (l.length : Int) := by omega
      obtain rfl : t = l.length := by omega
      have c5 := HI.out.c5
      have c6 := HI.out.c6
      go_upto_region 10 with (fail)
      have C1 : Aside0 _ := ⟨walk_any (wideB l) (fun i k => pfitB (psAt ps i) (rdOf ByteArray.empty q k)) (fun W => PInv w g b5 (b5 + 1) b7 l.length (.slice A5 l.length z5) (.slice A6 q.length z6) l q ps l.length W) wr l.length q.length (by omega) (by omega) 55 56 #[.pointer (some ⟨b5, 0, none⟩)] #[.pointer (some ⟨b7, 0, none⟩), .pointer (some ⟨b5 + 1, 0, none⟩)]
        (Go.Proofs.enters_of Tryd.func55 (by kernel_rfl) rfl) (Go.Proofs.enters_of Tryd.func56 (by kernel_rfl) rfl)
        (fun W i hJ hi => (clo_wide W _ A5 z5 l hJ.c5 (Kd.R_reads' hJ.r5).2.2 (Kd.R_reads' hJ.r5).2.1 i hi).mono (by
          rintro e w' ⟨rfl, rfl⟩
          exact ⟨rfl, hJ⟩))
        (fun W i k hJ hi hk hm => by
          obtain ⟨v, cv, hr⟩ := hJ.rows i hi
          obtain ⟨A, c, rfl⟩ := Kd.R_slice hr
          refine (clo_part W _ _ ⟨g, 0, none⟩ l.length l.length A6 z6 c A q (psAt ps i) i k hi (Nat.le_refl _) hJ.c7 (by rw [show (⟨g, 0, none⟩ : Addr).add i = ⟨g, i, none⟩ from add_head g i]; exact cv) (Kd.R_reads' hr).2.2 (Kd.R_reads' hr).2.1 (n3 i) hJ.c6 (Kd.R_reads' hJ.r6).2.2 (Kd.R_reads' hJ.r6).2.1 hk (n4 k)).mono ?_
          rintro e w' ⟨b, rfl, hb, hw⟩
          have e1 : b = pfitB (psAt ps i) (rdOf ByteArray.empty q k) := by
            rw [Bool.eq_iff_iff, hb]
            exact pfit_iff.symm
          rw [e1]
          exact ⟨rfl, hJ.step hw⟩) HI.out⟩
      go_wp2_with fail
      refine Calls.mono C1.out ?_
      rintro e w' ⟨b, rfl, hb, hJ⟩
      go_wp2
      go_ret
      exact WalkEnd.mk b rfl hb hJ.below

set_option maxHeartbeats 1600000 in
set_option maxRecDepth 100000 in
/-- glob.Fits of a pattern that may not be. -/
theorem fits_no (w : World) (k : Nat) (a0 a1 : ByteArray) (ch : Int) (hch : glob_Check.f k a0 = some ch) (h0 : (ch == 0) = false) :
    Calls Tryd.prog 16 #[.string a0, .string a1] w fun e w' => e = .returned (.bool false) ∧ Below w.heap.size w w' := by
  have k1 := glob_Check.calls k a0 ch w hch
  have h1 : (ch != 0) = true := by rw [bne, h0]; rfl
  go_enter Tryd.func16, Tryd.ntmps16
  go_wp2_with fail
  refine Calls.mono k1 ?_
  rintro e w1 ⟨rfl, hb1⟩
  clear k1
  go_wp2
  go_ret
  exact ⟨rfl, hb1⟩
/-- The pieces of all parts, where each may be or not. -/
def pcsAll (k : Nat) : List ByteArray → Option (List (List S124))
  | [] => some []
  | s :: l => (glob_pieces.f k s).bind fun p => (pcsAll k l).bind fun r => some (p.1 :: r)
theorem pcsAll_mono (k : Nat) : ∀ l, LeO (pcsAll k l) (pcsAll (k + 1) l)
  | [] => LeO.refl _
  | s :: l => LeO.bind (glob_pieces.mono s k) fun _ => LeO.bind (pcsAll_mono k l) fun _ => LeO.refl _
theorem pcsAll_get (k : Nat) : ∀ (l : List ByteArray) (ps : List (List S124)), pcsAll k l = some ps → ∀ i, i < l.length → ∃ b, glob_pieces.f k (rdOf ByteArray.empty l (i : Int)) = some (psAt ps i, b)
  | [], ps, h, i, hi => absurd hi (Nat.not_lt_zero _)
  | s :: l, ps, h, i, hi => by
    rw [pcsAll] at h
    obtain ⟨p, h1, h⟩ := Option.bind_eq_some_iff.1 h
    obtain ⟨r, h2, h⟩ := Option.bind_eq_some_iff.1 h
    obtain rfl := Option.some.inj h
    cases i with
    | zero => exact ⟨p.2, h1⟩
    | succ i => exact pcsAll_get k l r h2 i (by simpa using hi)
def fitsB (l q : List ByteArray) (ps : List (List S124)) : Bool := mtAll (wideB l) (fun i k => pfitB (psAt ps i) (rdOf ByteArray.empty q k)) l.length q.length
def okSizes (l q : List ByteArray) (ps : List (List S124)) : Bool := decide (l.length ≤ 1048576) && decide (q.length ≤ 1048576) && ps.all (fun p => decide (p.length ≤ 4611686018427387904)) && q.all (fun s => decide (s.size ≤ 4611686018427387904))
def glob_Fits.f (k : Nat) (a0 a1 : ByteArray) : Option Bool := (glob_Check.f k a0).bind fun ch => if ch = 0 then ((route_Parts.f a0).bind fun l => (route_Parts.f a1).bind fun q => (pcsAll k l).bind fun ps => if okSizes l q ps = true then some (fitsB l q ps) else none) else some false
theorem glob_Fits.mono : ∀ a0 a1 k, LeO (glob_Fits.f k a0 a1) (glob_Fits.f (k + 1) a0 a1) := by
  intro a0 a1 k
  unfold glob_Fits.f
  exact LeO.bind (glob_Check.mono _ _) fun _ => LeO.ite (LeO.bind (LeO.refl _) fun _ => LeO.bind (LeO.refl _) fun _ => LeO.bind (pcsAll_mono _ _) fun _ => LeO.refl _) (LeO.refl _)
theorem glob_Fits.calls (k : Nat) (a0 : ByteArray) (a1 : ByteArray) (r : Bool) (w : World) (h : glob_Fits.f k a0 a1 = some r) :
    Calls Tryd.prog 16 #[.string a0, .string a1] w fun e w' => e = .returned (.bool r) ∧ Below w.heap.size w w' := by
  unfold glob_Fits.f at h
  obtain ⟨ch, h1, h⟩ := Option.bind_eq_some_iff.1 h
  by_cases hc : ch = 0
  · subst hc
    rw [if_pos rfl] at h
    obtain ⟨l, h2, h⟩ := Option.bind_eq_some_iff.1 h
    obtain ⟨q, h3, h⟩ := Option.bind_eq_some_iff.1 h
    obtain ⟨ps, h4, h⟩ := Option.bind_eq_some_iff.1 h
    by_cases hs : okSizes l q ps = true
    · rw [if_pos hs] at h
      obtain rfl := Option.some.inj h
      simp only [okSizes, Bool.and_eq_true, decide_eq_true_eq, List.all_eq_true] at hs
      obtain ⟨⟨⟨n1, n2⟩, n3⟩, n4⟩ := hs
      refine (fits_yes w k a0 a1 l q ps h1 h2 h3 (pcsAll_get k l ps h4) n1 n2 (fun i => ?_) (fun i => ?_)).mono ?_
      · unfold psAt
        by_cases hi : i < ps.length
        · rw [List.getD_eq_getElem?_getD, List.getElem?_eq_getElem hi]
          exact n3 _ (List.getElem_mem hi)
        · rw [List.getD_eq_getElem?_getD, List.getElem?_eq_none (by omega)]
          exact Nat.zero_le _
      · unfold rdOf
        by_cases hi : (i : Int).toNat < q.length
        · rw [List.getD_eq_getElem?_getD, List.getElem?_eq_getElem hi]
          exact n4 _ (List.getElem_mem hi)
        · rw [List.getD_eq_getElem?_getD, List.getElem?_eq_none (by omega)]
          exact Nat.zero_le _
      · rintro e w' ⟨b, rfl, hb, hw⟩
        have e1 : b = fitsB l q ps := by
          rw [Bool.eq_iff_iff, hb]
          exact mtAll_iff.symm
        rw [e1]
        exact ⟨rfl, hw⟩
    · rw [if_neg hs] at h
      cases h
  · rw [if_neg hc] at h
    obtain rfl := Option.some.inj h
    exact fits_no w k a0 a1 ch h1 (by rw [beq_eq_false_iff_ne]; exact hc)


/-! ### glob_Part: function 18 -/
def glob_Part.f (k : Nat) (a0 : ByteArray) (a1 : ByteArray) : Option (Bool) := (glob_pieces.f k a0).bind fun bt128 => (if bt128.2 = true then ((glob_fit.f bt128.1 a1).bind fun t132 => (some t132)) else (some false))
theorem glob_Part.mono : ∀ a0 a1 k, LeO (glob_Part.f k a0 a1) (glob_Part.f (k + 1) a0 a1) := by
  intro a0 a1 k
  unfold glob_Part.f
  repeat' first
      | (with_reducible exact glob_pieces.mono _ _)
      | (with_reducible exact LeO.refl _)
      | (with_reducible exact LeO.none _)
      | (with_reducible refine LeO.ite ?_ ?_)
      | (with_reducible refine LeO.bind ?_ (fun _ => ?_))
      | exact glob_pieces.mono _ _
      | exact LeO.none _
      | refine LeO.ite ?_ ?_
      | refine LeO.bind ?_ (fun _ => ?_)
set_option maxHeartbeats 8000000 in
set_option maxRecDepth 100000 in
theorem glob_Part.calls (k : Nat) (a0 : ByteArray) (a1 : ByteArray) (r : Bool) (w : World) (h : glob_Part.f k a0 a1 = some r) :
    Calls Tryd.prog 18 #[.string a0, .string a1] w fun e w' => e = .returned (.bool r) ∧ Below w.heap.size w w' := by
  have HB := Aside0.mk (Below.refl w.heap.size w)
  have H : ((glob_pieces.f k a0).bind fun bt128 => (if bt128.2 = true then ((glob_fit.f bt128.1 a1).bind fun t132 => (some t132)) else (some false))) = some r := h
  clear h
  replace H := Option.bind_eq_some_iff.mp H
  obtain ⟨⟨t128, t129⟩, A30, H⟩ := H
  replace H : (if t129 = true then ((glob_fit.f t128 a1).bind fun t132 => (some t132)) else (some false)) = some r := H
  have A3 := Aside0.mk A30
  clear A30
  by_cases c4 : t129 = true
  · subst c4
    have H1 : ((glob_fit.f t128 a1).bind fun t132 => (some t132)) = some r := by rw [if_pos rfl] at H; exact H
    clear H
    have H := H1
    clear H1
    replace H := Option.bind_eq_some_iff.mp H
    obtain ⟨t132, A50, H⟩ := H
    replace H : (some t132) = some r := H
    have A5 := Aside0.mk A50
    clear A50
    obtain rfl := Option.some.inj H
    go_enter Tryd.func18, Tryd.ntmps18
    go_wp2_with (first | ((with_reducible refine gate_callee (f := 51) rfl ?_); refine goesL_ (some 9) rfl rfl Tryd.func51 (by kernel_rfl) rfl #[.string a0] rfl (by (try simp only [List.map_toArray, List.map_cons, List.map_nil]); first | done | rfl | (simp only [List.length_drop, List.length_take]; rfl)) ?_; (with_reducible refine (glob_pieces.calls k a0 t128 true _ A3.out).mono ?_); rintro e w6 ⟨v130, rfl, ho0, hb⟩; refine ⟨_, rfl, ?_⟩; have n0_ := Aside0.mk (Kd.R_lower ho0 (below_size (by repeat (first | (with_reducible first | exact HB.out | apply below_alloc | apply pw_below_drewN | apply below_drew1) | exact HB.out)))); have n1_ := Aside0.mk (below_step (by repeat (first | (with_reducible first | exact HB.out | apply below_alloc | apply pw_below_drewN | apply below_drew1) | exact HB.out)) hb); clear HB; have HO131 := n0_; have HB := n1_; clear n0_ n1_; (try clear hb); (try clear hb2); (try clear hk); (try clear hi); (try clear ho0); obtain ⟨Ao7, co7, eo7⟩ := Kd.R_slice HO131.out; subst eo7) | (go_at_call 57; (with_reducible refine (glob_fit.calls _ _ t128 a1 t132 _ ?side1 ?side2 A5.out).mono ?_); (case side1 => repeat (first | exact (Kd.R_reads' HO131.out).2.2 | (with_reducible refine Kd.C_alloc ?_ _) | (with_reducible refine Kd.C_drewN ?_ _) | (with_reducible refine Kd.C_drew ?_))); (case side2 => exact (Kd.R_reads' HO131.out).2.1); rintro e w8 ⟨rfl, hb⟩; have n0_ := Aside0.mk (Kd.R_below (by (with_reducible repeat (first | apply Kd.R_alloc | apply Kd.R_drewN | apply Kd.R_drew)); exact HO131.out) hb); have n1_ := Aside0.mk (below_step (by repeat (first | (with_reducible first | exact HB.out | apply below_alloc | apply pw_below_drewN | apply below_drew1) | exact HB.out)) hb); clear HO131; clear HB; have HO131 := n0_; have HB := n1_; clear n0_ n1_; (try clear hb); (try clear hb2); (try clear hk); (try clear hi)))
    go_ret
    exact ⟨by first | rfl | (simp [errW_none, errW_some] <;> rfl) | (simp [*, errW_none, errW_some] <;> rfl), by repeat (first | (with_reducible first | exact HB.out | apply below_alloc | apply pw_below_drewN | apply below_drew1) | exact HB.out)⟩
  · replace c4 := Bool.eq_false_iff.mpr c4
    subst c4
    have H1 : (some false) = some r := by rw [if_neg (show ¬ (false = true) by decide)] at H; exact H
    clear H
    have H := H1
    clear H1
    obtain rfl := Option.some.inj H
    go_enter Tryd.func18, Tryd.ntmps18
    go_wp2_with (first | ((with_reducible refine gate_callee (f := 51) rfl ?_); refine goesL_ (some 9) rfl rfl Tryd.func51 (by kernel_rfl) rfl #[.string a0] rfl (by (try simp only [List.map_toArray, List.map_cons, List.map_nil]); first | done | rfl | (simp only [List.length_drop, List.length_take]; rfl)) ?_; (with_reducible refine (glob_pieces.calls k a0 t128 false _ A3.out).mono ?_); rintro e w9 ⟨v130, rfl, ho0, hb⟩; refine ⟨_, rfl, ?_⟩; have n0_ := Aside0.mk (Kd.R_lower ho0 (below_size (by repeat (first | (with_reducible first | exact HB.out | apply below_alloc | apply pw_below_drewN | apply below_drew1) | exact HB.out)))); have n1_ := Aside0.mk (below_step (by repeat (first | (with_reducible first | exact HB.out | apply below_alloc | apply pw_below_drewN | apply below_drew1) | exact HB.out)) hb); clear HB; have HO131 := n0_; have HB := n1_; clear n0_ n1_; (try clear hb); (try clear hb2); (try clear hk); (try clear hi); (try clear ho0)))
    go_ret
    exact ⟨by first | rfl | (simp [errW_none, errW_some] <;> rfl) | (simp [*, errW_none, errW_some] <;> rfl), by repeat (first | (with_reducible first | exact HB.out | apply below_alloc | apply pw_below_drewN | apply below_drew1) | exact HB.out)⟩

/-! ### slices_Index_byte_byte: function 102 -/
def slices_Index_byte_byte.l0 : Nat → List Int → Int → Int → Int → Option (Int)
  | 0, _, _, _, _ => none
  | k + 1, x0, x1, x7, x8 => if x8 < x7 then (if 0 ≤ x8 then (if x8 < (x0.length : Int) then (if x1 = (rd x0 x8) then (some x8) else (slices_Index_byte_byte.l0 k x0 x1 x7 (wrap64 (x8 + 1)))) else (none)) else (none)) else (some (-1))
def slices_Index_byte_byte.f (k : Nat) (l0 : List Int) (a1 : Int) : Option (Int) := slices_Index_byte_byte.l0 k l0 a1 (l0.length : Int) 0
theorem slices_Index_byte_byte.mono_l : ∀ k, (∀ y0 y1 y2 y3, LeO (slices_Index_byte_byte.l0 k y0 y1 y2 y3) (slices_Index_byte_byte.l0 (k + 1) y0 y1 y2 y3))
  | 0 => fun _ _ _ _ r h => by simp [slices_Index_byte_byte.l0] at h
  | k + 1 => by
    have ih0 := slices_Index_byte_byte.mono_l k
    · intro y0 y1 y2 y3
      unfold slices_Index_byte_byte.l0
      repeat' first
      | (with_reducible exact ih0 _ _ _ _)
      | (with_reducible exact LeO.refl _)
      | (with_reducible exact LeO.none _)
      | (with_reducible refine LeO.ite ?_ ?_)
      | (with_reducible refine LeO.bind ?_ (fun _ => ?_))
      | exact ih0 _ _ _ _
      | exact LeO.none _
      | refine LeO.ite ?_ ?_
      | refine LeO.bind ?_ (fun _ => ?_)
theorem slices_Index_byte_byte.mono : ∀ a0 a1 k, LeO (slices_Index_byte_byte.f k a0 a1) (slices_Index_byte_byte.f (k + 1) a0 a1) := by
  intro a0 a1 k
  have ih0 := slices_Index_byte_byte.mono_l k
  unfold slices_Index_byte_byte.f
  repeat' first
      | (with_reducible exact ih0 _ _ _ _)
      | (with_reducible exact LeO.refl _)
      | (with_reducible exact LeO.none _)
      | (with_reducible refine LeO.ite ?_ ?_)
      | (with_reducible refine LeO.bind ?_ (fun _ => ?_))
      | exact ih0 _ _ _ _
      | exact LeO.none _
      | refine LeO.ite ?_ ?_
      | refine LeO.bind ?_ (fun _ => ?_)
set_option maxHeartbeats 8000000 in
set_option maxRecDepth 100000 in
theorem slices_Index_byte_byte.calls (k : Nat) (A0 : Option Addr) (c0 : Nat) (l0 : List Int) (a1 : Int) (r : Int) (w : World) (hr0 : Kd.C (Kd.int .u8) w A0 l0.length l0) (hc0 : l0.length ≤ c0) (h : slices_Index_byte_byte.f k l0 a1 = some r) :
    Calls Tryd.prog 102 #[.slice A0 l0.length c0, .int .u8 a1] w fun e w' => e = .returned (.int .i64 r) ∧ Drawn0 w w' := by
  have HR0 := Aside0.mk hr0
  have HC0 := Aside0.mk hc0
  clear hr0 hc0
  have H : (slices_Index_byte_byte.l0 k l0 a1 (l0.length : Int) 0) = some r := h
  clear h
  have H' := Aside0.mk H
  clear H
  go_enter Tryd.func102, Tryd.ntmps102
  go_wp2
  go_loopg [8] k (fun kq v8 w' => ∃ (x8_1 : Int), v8 = .int .i64 x8_1 ∧ Aside0 (slices_Index_byte_byte.l0 kq l0 a1 (l0.length : Int) x8_1 = some r) ∧ Aside0 (kq ≤ k) ∧ Drawn0 w w')
  case atStart => exact ⟨(0), (by first | rfl | (simp; done) | (simp [*]; done)), H', ⟨Nat.le_refl _⟩, by repeat (first | exact Drawn0.refl _ | apply Drawn0.step)⟩
  case round =>
    clear H'
    try clear c1
    try clear p2
    obtain ⟨x8_1, rfl, HA, HK1, ⟨m1, rfl⟩⟩ := hrel
    cases gk with
    | zero => exact absurd HA.out (by simp [slices_Index_byte_byte.l0])
    | succ k1 =>
      have H := HA.out
      clear HA
      simp only [slices_Index_byte_byte.l0] at H
      by_cases c3 : x8_1 < (l0.length : Int)
      · rw [if_pos c3] at H
        have c3b0 : decide (x8_1 < (l0.length : Int)) = true := decide_eq_true c3
        clear c3
        by_cases c4 : 0 ≤ x8_1
        · rw [if_pos c4] at H
          have c4b0 : decide (0 ≤ x8_1) = true := decide_eq_true c4
          clear c4
          by_cases c5 : x8_1 < (l0.length : Int)
          · rw [if_pos c5] at H
            have c5b0 : decide (x8_1 < (l0.length : Int)) = true := decide_eq_true c5
            clear c5
            by_cases c6 : a1 = (rd l0 x8_1)
            · rw [if_pos c6] at H
              have c6b0 : (a1 == (rd l0 x8_1)) = true := beq_iff_eq.mpr c6
              have c6b1 : (a1 != (rd l0 x8_1)) = false := bne_eq_false_iff_eq.mpr c6
              clear c6
              obtain rfl := Option.some.inj H
              have p133 : 0 ≤ (x8_1 : Int) := of_decide_eq_true (by first | (with_reducible assumption) | assumption)
              have q133 : x8_1 < (l0.length : Int) := of_decide_eq_true (by first | (with_reducible assumption) | assumption)
              obtain ⟨ad133, e133, hx133_0⟩ := Kd.at_int HR0.out x8_1 p133 q133
              cases e133
              replace p133 := eq_true p133
              replace q133 := eq_true q133
              go_wp2
              go_ret
              exact ⟨by first | rfl | (simp; done) | (simp [*]; done), by repeat (first | exact Drawn0.refl _ | apply Drawn0.step)⟩
            · rw [if_neg c6] at H
              have c6b0 : (a1 == (rd l0 x8_1)) = false := beq_eq_false_iff_ne.mpr c6
              have c6b1 : (a1 != (rd l0 x8_1)) = true := bne_iff_ne.mpr c6
              have H' := Aside0.mk H
              clear H
              have p133 : 0 ≤ (x8_1 : Int) := of_decide_eq_true (by first | (with_reducible assumption) | assumption)
              have q133 : x8_1 < (l0.length : Int) := of_decide_eq_true (by first | (with_reducible assumption) | assumption)
              obtain ⟨ad133, e133, hx133_0⟩ := Kd.at_int HR0.out x8_1 p133 q133
              cases e133
              replace p133 := eq_true p133
              replace q133 := eq_true q133
              go_wp2
              go_roundg k1
              case measure => have := HK1.out; omega
              case rel => exact ⟨(wrap64 (x8_1 + 1)), (by first | rfl | (simp; done) | (simp [*]; done)), H', ⟨by have := HK1.out; omega⟩, by repeat (first | exact Drawn0.refl _ | apply Drawn0.step)⟩
          · rw [if_neg c5] at H
            exact absurd H (by simp)
        · rw [if_neg c4] at H
          exact absurd H (by simp)
      · rw [if_neg c3] at H
        have c3b0 : decide (x8_1 < (l0.length : Int)) = false := decide_eq_false c3
        clear c3
        obtain rfl := Option.some.inj H
        go_wp2
        go_ret
        exact ⟨by first | rfl | (simp; done) | (simp [*]; done), by repeat (first | exact Drawn0.refl _ | apply Drawn0.step)⟩

/-! ### slices_Contains_byte_byte: function 59 -/
def slices_Contains_byte_byte.f (k : Nat) (l0 : List Int) (a1 : Int) : Option (Bool) := (slices_Index_byte_byte.f k l0 a1).bind fun t134 => (some (decide (t134 ≥ 0)))
theorem slices_Contains_byte_byte.mono : ∀ a0 a1 k, LeO (slices_Contains_byte_byte.f k a0 a1) (slices_Contains_byte_byte.f (k + 1) a0 a1) := by
  intro a0 a1 k
  unfold slices_Contains_byte_byte.f
  repeat' first
      | (with_reducible exact slices_Index_byte_byte.mono _ _ _)
      | (with_reducible exact LeO.refl _)
      | (with_reducible exact LeO.none _)
      | (with_reducible refine LeO.ite ?_ ?_)
      | (with_reducible refine LeO.bind ?_ (fun _ => ?_))
      | exact slices_Index_byte_byte.mono _ _ _
      | exact LeO.none _
      | refine LeO.ite ?_ ?_
      | refine LeO.bind ?_ (fun _ => ?_)
set_option maxHeartbeats 8000000 in
set_option maxRecDepth 100000 in
theorem slices_Contains_byte_byte.calls (k : Nat) (A0 : Option Addr) (c0 : Nat) (l0 : List Int) (a1 : Int) (r : Bool) (w : World) (hr0 : Kd.C (Kd.int .u8) w A0 l0.length l0) (hc0 : l0.length ≤ c0) (h : slices_Contains_byte_byte.f k l0 a1 = some r) :
    Calls Tryd.prog 59 #[.slice A0 l0.length c0, .int .u8 a1] w fun e w' => e = .returned (.bool r) ∧ Drawn0 w w' := by
  have HR0 := Aside0.mk hr0
  have HC0 := Aside0.mk hc0
  clear hr0 hc0
  have H : ((slices_Index_byte_byte.f k l0 a1).bind fun t134 => (some (decide (t134 ≥ 0)))) = some r := h
  clear h
  replace H := Option.bind_eq_some_iff.mp H
  obtain ⟨t134, A30, H⟩ := H
  replace H : (some (decide (t134 ≥ 0))) = some r := H
  have A3 := Aside0.mk A30
  clear A30
  obtain rfl := Option.some.inj H
  go_enter Tryd.func59, Tryd.ntmps59
  go_wp2_with (first | ((with_reducible refine gate_callee (f := 102) rfl ?_); refine goesL_ (some 7) rfl rfl Tryd.func102 (by kernel_rfl) rfl #[.slice A0 l0.length c0, .int .u8 a1] rfl (by (try simp only [List.map_toArray, List.map_cons, List.map_nil]); first | done | rfl | (simp only [List.length_drop, List.length_take]; rfl)) ?_; (with_reducible refine (slices_Index_byte_byte.calls k _ _ l0 a1 t134 _ ?side1 ?side2 A3.out).mono ?_); (case side1 => repeat (first | exact HR0.out | (with_reducible refine Kd.C_alloc ?_ _) | (with_reducible refine Kd.C_drewN ?_ _) | (with_reducible refine Kd.C_drew ?_))); (case side2 => exact HC0.out); rintro e w' ⟨rfl, ⟨nd, rfl⟩⟩; refine ⟨_, rfl, ?_⟩))
  go_ret
  exact ⟨by first | rfl | (simp; done) | (simp [*]; done), by repeat (first | exact Drawn0.refl _ | apply Drawn0.step)⟩

/-! ### glob_Quote: function 20 -/
-- rounds: no making: yes
-- uses: slices.Contains[[]byte,byte]
open XGlob
def quoteL : List UInt8 → List UInt8
  | [] => []
  | c :: l => if c = 42 ∨ c = 63 ∨ c = 92 then 92 :: c :: quoteL l else c :: quoteL l
theorem quoteL_append : ∀ (l m : List UInt8), quoteL (l ++ m) = quoteL l ++ quoteL m
  | [], m => rfl
  | c :: l, m => by
    rw [List.cons_append, quoteL, quoteL, quoteL_append l m]
    by_cases h : c = 42 ∨ c = 63 ∨ c = 92
    · rw [if_pos h, if_pos h]; rfl
    · rw [if_neg h, if_neg h]; rfl
theorem quoteL_len : ∀ (l : List UInt8), (quoteL l).length ≤ 2 * l.length
  | [] => Nat.le_refl _
  | c :: l => by
    have := quoteL_len l
    rw [quoteL]
    by_cases h : c = 42 ∨ c = 63 ∨ c = 92
    · rw [if_pos h]; simp; omega
    · rw [if_neg h]; simp; omega
theorem lit3 (W : World) : Kd.C (Kd.int .u8) (W.alloc (.cells #[.int .u8 42, .int .u8 63, .int .u8 92] 5)) (some ⟨W.heap.size, 0, none⟩) 3 [42, 63, 92] := by
  have h0 := World.ownsRow_lit (base := W.heap.size) (size := 1) (e := 5) W #[.int .u8 42, .int .u8 63, .int .u8 92] 3 (Nat.le_refl _) (by unfold maxLen; omega) rfl
  exact (Kd.R_reads' (Kd.R_of_own (enc := Value.int .u8) (h1 := fun _ => rfl) (xs := [42, 63, 92]) h0 (ok := fun _ => True) (fun _ _ => trivial))).2.2
theorem contains3 (c : UInt8) : slices_Contains_byte_byte.f 6 [42, 63, 92] (c.toNat : Int) = some (decide (c = 42 ∨ c = 63 ∨ c = 92)) := by
  have h : ∀ n : Fin 256, slices_Contains_byte_byte.f 6 [42, 63, 92] (n.val : Int) = some (decide (n.val = 42 ∨ n.val = 63 ∨ n.val = 92)) := by decide +kernel
  have h2 := h ⟨c.toNat, c.toNat_lt⟩
  rw [h2]
  congr 1
  have e : ∀ k : UInt8, (c = k) ↔ c.toNat = k.toNat := fun k => ⟨fun h => by rw [h], fun h => UInt8.toNat_inj.1 h⟩
  simp only [e]
  rfl
set_option maxHeartbeats 3200000 in
set_option maxRecDepth 100000 in
/-- glob.Quote. -/
theorem quote_calls (s : ByteArray) (w : World) (hs : s.size ≤ 1099511627776) :
    Calls Tryd.prog 20 #[.string s] w fun e w' => e = .returned (.string ⟨(quoteL s.data.toList).toArray⟩) ∧ Below w.heap.size w w' := by
  go_enter Tryd.func20, Tryd.ntmps20
  go_wp2
  go_loopg [7] s.size (fun gg v7 W => ∃ t : Nat, v7 = .int .i64 (t : Int) ∧ s.size - t ≤ gg ∧ t ≤ s.size ∧ Aside0 (Lib.IsBuilder 86 5 w.heap.size w.heap.size (Lib.byteCells (quoteL (s.data.toList.take t))) W) ∧ Aside0 (Below w.heap.size w W))
  case atStart => exact ⟨0, rfl, Nat.le_refl _, Nat.zero_le _, ⟨isB_new 86 5 w w.heap.size (Nat.le_refl _)⟩, ⟨below_alloc (Below.refl _ _) _⟩⟩
  case round =>
    obtain ⟨t, rfl, hg, ht, HI, HB⟩ := hrel
    by_cases h : t < s.size
    · have hz : (t : Int) < (s.size : Int) := by omega
      have hz0 : (0 : Int) ≤ (t : Int) := by omega
      have hq := contains3 (s[t]'h)
      have hql := Aside0.mk (quoteL_len (s.data.toList.take t))
      have hsn : Aside0 (s.data.toList.take (t + 1) = s.data.toList.take t ++ [s[t]'h]) := ⟨by
        rw [List.take_succ_eq_append_getElem (by simpa using h)]; rfl⟩
      have hbs := HB.out.size
      generalize hcc : (s[t]'h) = c at hq hsn
      by_cases hsp : c = 42 ∨ c = 63 ∨ c = 92
      · rw [decide_eq_true hsp] at hq
        have HQ := Aside0.mk hq
        have HE : Aside0 (quoteL (s.data.toList.take (t + 1)) = quoteL (s.data.toList.take t) ++ [92] ++ [c]) := ⟨by rw [hsn.out, quoteL_append, quoteL, if_pos hsp]; simp [quoteL]⟩
        clear hq hsp hsn
        have K2 := slices_Contains_byte_byte.calls 6 (some ⟨wr.heap.size, 0, none⟩) 3 [42, 63, 92] (c.toNat : Int) true _ (lit3 wr) (Nat.le_refl _) HQ.out
        go_wp2_with fail
        refine Calls.mono K2 ?_
        rintro e w1 ⟨rfl, ⟨n1, rfl⟩⟩
        clear K2
        have B1 := pw_below_drewN (below_alloc (Below.refl wr.heap.size wr) (Obj.cells #[Value.int IntKind.u8 42, Value.int IntKind.u8 63, Value.int IntKind.u8 92] 5)) n1
        have K3 := writeByte w.heap.size w.heap.size _ 92 _ (isB_below HI.out B1) (by have := hql.out; have := List.length_take_le t s.data.toList; rw [Lib.byteCells_length]; omega) (by simp; omega)
        have B2 := Aside0.mk (below_step HB.out B1)
        clear B1
        go_wp2_with fail
        refine Calls.mono K3 ?_
        rintro e w2 ⟨rfl, i2, b2⟩
        clear K3
        have hs2 := b2.size
        have K4 := writeByte w.heap.size w.heap.size _ (c.toNat : Int) _ i2 (by have := hql.out; have := List.length_take_le t s.data.toList; rw [List.length_append, Lib.byteCells_length]; simp; omega) (by simp at hs2; omega)
        have B3 := Aside0.mk (B2.out.trans b2)
        clear i2 b2 hs2 B2
        go_wp2_with fail
        refine Calls.mono K4 ?_
        rintro e w3 ⟨rfl, i3, b3⟩
        clear K4
        have I3 : Aside0 (Lib.IsBuilder 86 5 w.heap.size w.heap.size (Lib.byteCells (quoteL (s.data.toList.take (t + 1)))) w3) := ⟨by rw [HE.out, ← byteCells_snoc, ← byteCells_snoc]; exact i3⟩
        have B4 := Aside0.mk (B3.out.trans b3)
        clear i3 b3 B3
        go_wp2
        go_roundg (s.size - (t + 1))
        case measure => omega
        case rel => exact ⟨t + 1, by go_num, Nat.le_refl _, by omega, I3, B4⟩
      · rw [decide_eq_false hsp] at hq
        have HQ := Aside0.mk hq
        have HE : Aside0 (quoteL (s.data.toList.take (t + 1)) = quoteL (s.data.toList.take t) ++ [c]) := ⟨by rw [hsn.out, quoteL_append, quoteL, if_neg hsp]; rfl⟩
        clear hq hsp hsn
        have K2 := slices_Contains_byte_byte.calls 6 (some ⟨wr.heap.size, 0, none⟩) 3 [42, 63, 92] (c.toNat : Int) false _ (lit3 wr) (Nat.le_refl _) HQ.out
        go_wp2_with fail
        refine Calls.mono K2 ?_
        rintro e w1 ⟨rfl, ⟨n1, rfl⟩⟩
        clear K2
        have B1 := pw_below_drewN (below_alloc (Below.refl wr.heap.size wr) (Obj.cells #[Value.int IntKind.u8 42, Value.int IntKind.u8 63, Value.int IntKind.u8 92] 5)) n1
        have K4 := writeByte w.heap.size w.heap.size _ (c.toNat : Int) _ (isB_below HI.out B1) (by have := hql.out; have := List.length_take_le t s.data.toList; rw [Lib.byteCells_length]; omega) (by simp; omega)
        have B3 := Aside0.mk (below_step HB.out B1)
        clear B1
        go_wp2_with fail
        refine Calls.mono K4 ?_
        rintro e w3 ⟨rfl, i3, b3⟩
        clear K4
        have I3 : Aside0 (Lib.IsBuilder 86 5 w.heap.size w.heap.size (Lib.byteCells (quoteL (s.data.toList.take (t + 1)))) w3) := ⟨by rw [HE.out, ← byteCells_snoc]; exact i3⟩
        have B4 := Aside0.mk (B3.out.trans b3)
        clear i3 b3 B3
        go_wp2
        go_roundg (s.size - (t + 1))
        case measure => omega
        case rel => exact ⟨t + 1, by go_num, Nat.le_refl _, by omega, I3, B4⟩
    · have hz : ¬ (t : Int) < (s.size : Int) := by omega
      obtain rfl : t = s.size := by omega
      have K2 := builderString w.heap.size w.heap.size _ wr HI.out HB.out.size
      rw [List.take_of_length_le (by simp)] at K2
      go_wp2_with fail
      refine Calls.mono K2 ?_
      rintro e w2 ⟨rfl, b2⟩
      clear K2
      go_wp2
      go_ret
      exact ⟨rfl, HB.out.trans b2⟩

def glob_Quote.f (a0 : ByteArray) : Option ByteArray := if a0.size ≤ 1099511627776 then some ⟨(quoteL a0.data.toList).toArray⟩ else none
theorem glob_Quote.calls (a0 : ByteArray) (r : ByteArray) (w : World) (h : glob_Quote.f a0 = some r) :
    Calls Tryd.prog 20 #[.string a0] w fun e w' => e = .returned (.string r) ∧ Below w.heap.size w w' := by
  unfold glob_Quote.f at h
  by_cases hc : a0.size ≤ 1099511627776
  · rw [if_pos hc] at h
    obtain rfl := Option.some.inj h
    exact quote_calls a0 w hc
  · rw [if_neg hc] at h
    cases h


end Go.Proofs.YtdaofffedfccmaaDoor.XGlobFits
