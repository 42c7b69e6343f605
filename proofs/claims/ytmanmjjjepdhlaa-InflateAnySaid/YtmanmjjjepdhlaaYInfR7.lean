/- the document: rows It has no conditions. -/
import Derived.Test.YtmanmjjjepdhlaaYIR
import Derived.Test.YtmanmjjjepdhlaaYIB
import Derived.BigRegion
import Derived.RegionTactic
import Derived.ChangeAlike
import Derived.Deep.RegionWith
import Derived.Deep.RegionLaw
import Derived.Laws.Tables
import Derived.Deep.QuietTactic
import Derived.BigQuiet
import Derived.Deep.RegionHeld3
import Derived.Deep.AppendLies
import Derived.Deep.DrawnRows
import Derived.Laws.CopyOwn
import Derived.Deep.MidRow
import Derived.Laws.ResultCell
import Derived.ChangeKeysEq
import Derived.Laws.BitsAllLaws
namespace Go.Proofs.Ytmanmjjjepdhlaa.XPrefix
set_option linter.unusedVariables false
set_option linter.unusedSimpArgs false
open Go.RowKit Go.Proofs.YtmanmjjjepdhlaaW.PrintWords Go.Proofs.YtmanmjjjepdhlaaW.PrintLast Go.Proofs.YtmanmjjjepdhlaaW.PrintMore
attribute [local go_sem] max2_int min2_int max_two min_two max_three min_three max_four min_four

open XInflateAny XTok
theorem R_keepB {w w1 : World} {base g t : Nat} {v : Value} {xs : List Int} {cs : Array Value} (h : Kd.R (Kd.int .i64) 3 w base (fun _ => True) v xs) (hb : w.heap[g]? = some (.cells cs t (0, 0))) (ht : 3 ≠ t) (hk : KeepBut w w1 g none) : Kd.R (Kd.int .i64) 3 w1 base (fun _ => True) v xs :=
  Kd.R_mono (Kd.R_keep (Kd.R_far1 h rfl (Kd.R_ne h hb ht)) hk (fun k hk => hk.2)) (fun _ _ => trivial)
theorem own_raise {w : World} {base base' : Nat} {e : TypeId} {size n : Nat} {v : Value} {xs : List Value} (h : w.ownsRow base e size v n xs) (hb : ∀ k, v.ownBlock = some k → base' ≤ k) : w.ownsRow base' e size v n xs := by
  obtain ⟨h1, h2⟩ := h
  refine ⟨h1, ?_⟩
  rcases h2 with h2 | ⟨g, cap, cur, rfl, hg, r⟩
  · exact .inl h2
  · exact .inr ⟨g, cap, cur, rfl, hb g (by simp [Value.ownBlock]), r⟩
theorem same_calls2 (base : Nat) (v : Value) (l : List Int) (n : Nat) (x : Int) (w0 W : World) (h0 : w0.heap.size ≤ base) (h1 : base ≤ W.heap.size) (hB : Below w0.heap.size w0 W) (hO : Kd.R (Kd.int .i64) 3 W base (fun _ => True) v l) (hn : n ≤ 1000) (hl : l.length ≤ 90000) :
    Calls Try.prog 96 #[v, .int .i64 n, .int .i64 x] W fun e w' => ∃ v1, e = .returned v1 ∧ Kd.R (Kd.int .i64) 3 w' base (fun _ => True) v1 (l ++ List.replicate n x) ∧ Below w0.heap.size w0 w' ∧ (∀ k, k < base → w'.heap[k]? = W.heap[k]?) ∧ W.heap.size ≤ w'.heap.size := by
  obtain ⟨q, hq⟩ := (same_is l n x hn hl).rounds
  have ho : W.ownsRow base 3 1 v l.length (encs (Value.int .i64) l) := Kd.own_of_R (enc := Value.int .i64) (h1 := fun _ => rfl) hO
  refine (montageref08_same.calls q (fun k => some k = v.ownBlock) v l n x _ w0 W hB (Kd.R_of_own (enc := Value.int .i64) (h1 := fun _ => rfl) (own_weaken ho h0) (fun k hk => hk.symm)) hq).mono ?_
  rintro e w' ⟨v1, rfl, hr, hb, hk⟩
  have hr1 : w'.ownsRow w0.heap.size 3 1 v1 (l ++ List.replicate n x).length (encs (Value.int .i64) (l ++ List.replicate n x)) := Kd.own_of_R (enc := Value.int .i64) (h1 := fun _ => rfl) hr
  refine ⟨v1, rfl, Kd.R_of_own (enc := Value.int .i64) (h1 := fun _ => rfl) (own_raise hr1 (fun k hk1 => ?_)) (fun _ _ => trivial), hb, fun k hlt => hk.2 k (by omega) (fun e => ?_), hk.1⟩
  · rcases hr.1 k hk1 with h | h
    · exact own_base ho k h.symm
    · omega
  · have := own_base ho k e.symm
    omega
theorem IsR.loc {w0 w w1 w9 : World} {g : Nat} {A0 : Option Addr} {c0 Z N p q : Nat} {vo vk : Value} {out ks : List Int} {most : Int} (h : IsR w0 w g A0 c0 Z N p vo out most vk ks) (h1 : IsR w0 w1 g A0 c0 Z N q vo out most vk ks) (hk : KeepBut w w1 g none) (hB : Below w0.heap.size w0 w9) (hb : ∀ k, k < w.heap.size → w9.heap[k]? = w1.heap[k]?) (hs : w1.heap.size ≤ w9.heap.size) : IsR w0 w9 g A0 c0 Z N q vo out most vk ks ∧ KeepBut w w9 g none := by
  have hk9 : KeepBut w w9 g none := ⟨Nat.le_trans hk.1 hs, fun k hlt a b => (hb k hlt).trans (hk.2 k hlt a b)⟩
  exact ⟨h.move ((hb g (blk_lt h.1)).trans h1.1) hB hk9, hk9⟩
def RRPost (w0 w : World) (g : Nat) (A0 : Option Addr) (c0 Z N : Nat) (vo : Value) (out : List Int) (most : Int) (vk : Value) (ks : List Int) (R : Except Int (List Int × Nat)) (e : Ending) (w' : World) : Prop :=
  (∃ er, R = .error er ∧ e = .returned (.tuple #[.slice none 0 0, .int .i64 er]) ∧ Below w0.heap.size w0 w' ∧ er ≠ 0) ∨ (∃ l q v, R = .ok (l, q) ∧ e = .returned (.tuple #[v, .int .i64 0]) ∧ Kd.R (Kd.int .i64) 3 w' w.heap.size (fun _ => True) v l ∧ IsR w0 w' g A0 c0 Z N q vo out most vk ks ∧ KeepBut w w' g none ∧ q ≤ N)
set_option maxHeartbeats 4000000 in
set_option maxRecDepth 100000 in
theorem rrow_calls (g : Nat) (A0 : Option Addr) (c0 Z N p n : Nat) (Af : Option Addr) (cf : Nat) (l1 : List Int) (vo vk : Value) (out ks : List Int) (most : Int) (w0 w : World) (hR : IsR w0 w g A0 c0 Z N p vo out most vk ks) (hN : N ≤ 800000) (hp : p ≤ N) (hK : eS l1 = 0) (hC : Row3 w Af l1) (hcf : l1.length ≤ cf) (h19 : l1.length = 19) (hn : n ≤ 1000) :
    Calls Try.prog 123 #[.pointer (some ⟨g, 0, none⟩), .slice Af l1.length cf, .int .i64 n] w fun e w' => RRPost w0 w g A0 c0 Z N vo out most vk ks (rowS l1 Z N n (n + 1) [] p) e w' := by
  obtain ⟨R, hRR⟩ : ∃ R, rowS l1 Z N n (n + 1) [] p = R := ⟨_, rfl⟩
  rw [hRR]
  have HX := Aside0.mk hR
  have HR := Aside0.mk hRR
  have HC := Aside0.mk hC
  have HK := Aside0.mk hK
  have H19 := Aside0.mk h19
  have HW := Aside0.mk hR.base_le
  clear hR hRR hC hK h19
  go_enter Try.func123, Try.ntmps123
  go_wp2
  go_loopg [8] (n + 1) (fun f v8 wr => ∃ (p' : Nat) (o' : List Int), Aside0 (IsR w0 wr g A0 c0 Z N p' vo out most vk ks) ∧ Aside0 (KeepBut w wr g none) ∧ Aside0 (Kd.R (Kd.int .i64) 3 wr w.heap.size (fun _ => True) v8 o') ∧ Aside0 (rowS l1 Z N n f o' p' = R) ∧ Aside0 (p' ≤ N ∧ n < o'.length + f ∧ o'.length ≤ 1000))
  case atStart => exact ⟨p, [], HX, ⟨KeepBut.refl _ _ _⟩, ⟨Kd.R_nil _ _ _ _ _⟩, HR, ⟨hp, by simp, by simp⟩⟩
  case round =>
    clear HR hp
    obtain ⟨p', o', HX0, HKB, HO, HR, HP⟩ := hrel
    obtain ⟨A5, c5, rfl⟩ := Kd.R_slice HO.out
    cases gk with
    | zero =>
      have hend : n ≤ o'.length := by have := HP.out; omega
      have d0 : decide ((o'.length : Int) < (n : Int)) = false := decide_eq_false (by omega)
      have d0b : decide (o'.length < n) = false := decide_eq_false (by omega)
      have hR := HR.out
      rw [rowS] at hR
      have HR2 := Aside0.mk hR
      clear hR hend
      go_wp2
      go_ret2
      exact .inr ⟨o', p', _, HR2.out.symm, rfl, HO.out, HX0.out, HKB.out, HP.out.1⟩
    | succ f =>
      have hR := HR.out
      rw [rowS] at hR
      by_cases hend : n ≤ o'.length
      · rw [if_pos hend] at hR
        have HR2 := Aside0.mk hR
        have d0 : decide ((o'.length : Int) < (n : Int)) = false := decide_eq_false (by omega)
        have d0b : decide (o'.length < n) = false := decide_eq_false (by omega)
        clear hR hend
        go_wp2
        go_ret2
        exact .inr ⟨o', p', _, HR2.out.symm, rfl, HO.out, HX0.out, HKB.out, HP.out.1⟩
      rw [if_neg hend] at hR
      have d0 : decide ((o'.length : Int) < (n : Int)) = true := decide_eq_true (by omega)
      have d0b : decide (o'.length < n) = true := decide_eq_true (by omega)
      have hrd := symbol_calls g A0 c0 Z N p' Af cf l1 vo vk out ks most w0 wr HX0.out hN HP.out.1 HK.out (HC.out.but HX.out HKB.out).1 hcf
      have hKR : KRes l1 (kS l1) 0 := HK.out ▸ kS_spec l1
      have hsy := readA_sym hKR Z N p'
      have hle := readA_le l1 (kS l1) Z N p' HP.out.1
      obtain ⟨A, hA⟩ : ∃ A, readA l1 (kS l1) Z N p' = A := ⟨_, rfl⟩
      rw [hA] at hrd hsy hle hR
      obtain ⟨s, er, p2, bad⟩ := A
      dsimp only at hR
      have HRD := Aside0.mk hrd
      by_cases h1 : er ≠ 0
      · rw [if_pos h1] at hR
        have HR2 := Aside0.mk hR
        have H1 := Aside0.mk h1
        have e0 : (er == 0) = false := beq_eq_false_iff_ne.mpr h1
        have e1 : (er != 0) = true := bne_iff_ne.mpr h1
        clear hrd hle hsy h1 hR hA HR hend hKR
        go_wp2_with fail
        refine HRD.out.mono ?_
        rintro e w1 ⟨rfl, hX1, hk1⟩
        have HX1 := Aside0.mk hX1
        clear hX1 hk1 HRD
        go_wp2
        go_ret2
        exact .inl ⟨er, HR2.out.symm, rfl, HX1.out.2.2.2.2.2.2, H1.out⟩
      rw [if_neg h1] at hR
      obtain rfl : er = 0 := by omega
      have hs19 : 0 ≤ s ∧ s < 19 := by obtain ⟨j, hj, hjl⟩ := hsy rfl; have hj2 : s = (j : Int) := hj; have := H19.out; omega
      obtain ⟨hb0, hp2⟩ := hle.2 rfl
      have HP2 := Aside0.mk (show p2 ≤ N ∧ p' < p2 from ⟨hle.1, hp2⟩)
      clear hle hsy h1 hA hrd HR hp2 hKR hb0
      have hlen := HP.out.2.2
      go_wp2_with fail
      refine HRD.out.mono ?_
      rintro e w1 ⟨rfl, hX1, hk1⟩
      have HX1 := Aside0.mk hX1
      have HK1 := Aside0.mk (HKB.out.trans hk1 (.inl rfl))
      have HO1 := Aside0.mk (R_keepB HO.out HX0.out.1 (by decide) hk1)
      clear hX1 hk1 HRD HKB HO HX0
      by_cases h2 : s < 16
      · rw [if_pos h2] at hR
        have HR2 := Aside0.mk hR
        have d2 : decide (s < 16) = true := decide_eq_true h2
        clear hR
        go_wp2_with (first | ((with_reducible refine gate_builtin (b := .append) (xs := #[.tmp 30, .tmp 32]) rfl ?_); at_builtin; refine Kd.R_append (Kd.int .i64) (w0 := w1) w.heap.size rfl (.tmp 30) (.tmp 32) 22 3 (.int .i64 0) 8 rfl Try.underlying22 info3 rfl (by decide) (by omega) (.slice A5 o'.length c5) o' s [.int .i64 s] (fun _ => True) (fun _ => False) rfl rfl rfl (fun _ h => h.elim) (fun _ _ => trivial) HO1.out (Below.refl _ _) HK1.out.1 (by omega) ?_; intro v9 w9 ho hb hg hat; have HL9 := Aside0.mk (IsR.loc HX.out HX1.out HK1.out (below_base HX1.out.2.2.2.2.2.2 hb HW.out) (fun k hk => hb.block k hk) hb.size); have HO9 := Aside0.mk ho; clear ho hb hg hat))
        go_roundg f
        case measure => exact Nat.lt_succ_self _
        case rel => exact ⟨p2, o' ++ [s], ⟨HL9.out.1⟩, ⟨HL9.out.2⟩, HO9, HR2, ⟨HP2.out.1, by have := HP.out; simp; omega, by simp; omega⟩⟩
      rw [if_neg h2] at hR
      have d2 : decide (s < 16) = false := decide_eq_false h2
      by_cases h3 : s = 16 ∧ o'.length = 0
      · rw [if_pos h3] at hR
        have HR2 := Aside0.mk hR
        have e3 : (s == 16) = true := beq_iff_eq.mpr h3.1
        have e4 : ((o'.length : Int) == 0) = true := beq_iff_eq.mpr (by omega)
        have e4b : (o'.length == 0) = true := beq_iff_eq.mpr (by omega)
        clear hR h3
        go_wp2
        go_ret2
        exact .inl ⟨2, HR2.out.symm, rfl, HX1.out.2.2.2.2.2.2, by decide⟩
      rw [if_neg h3] at hR
      have h16 : s = 16 ∨ s = 17 ∨ s = 18 := by omega
      rcases h16 with rfl | rfl | rfl
      · have e4 : ((o'.length : Int) == 0) = false := beq_eq_false_iff_ne.mpr (by omega)
        have e4b : (o'.length == 0) = false := beq_eq_false_iff_ne.mpr (by omega)
        have ho1 : 1 ≤ o'.length := by omega
        clear h3 d2 h2 hs19
        have eB : againB 16 = 2 := rfl
        have eC : againC 16 = 3 := rfl
        rw [eB, eC] at hR
        by_cases h4 : N < p2 + 2
        · rw [if_pos h4] at hR
          have HR2 := Aside0.mk hR
          have HAO := Aside0.mk (fun W hX => rbits_bad g A0 c0 Z N p2 2 vo vk out ks most w0 W hX hN HP2.out.1 h4)
          clear hR h4
          go_wp2_with fail
          refine (HAO.out _ (HX1.out.below (by repeat (first | exact Below.refl _ _ | apply below_alloc)))).mono ?_
          rintro e w2 ⟨rfl, hb⟩
          have HX2 := Aside0.mk ((HX1.out.below (by repeat (first | exact Below.refl _ _ | apply below_alloc))).below hb)
          clear hb
          go_wp2
          go_ret2
          exact .inl ⟨3, HR2.out.symm, rfl, HX2.out.2.2.2.2.2.2, by decide⟩
        rw [if_neg h4] at hR
        have hAO := fun W hX => rbits_ok g A0 c0 Z N p2 2 vo vk out ks most w0 W hX hN (by omega) (by omega)
        have hz : Z / 2 ^ p2 % 2 ^ 2 < 2 ^ 2 := Nat.mod_lt _ (Nat.two_pow_pos _)
        obtain ⟨z, hz'⟩ : ∃ z, Z / 2 ^ p2 % 2 ^ 2 = z := ⟨_, rfl⟩
        rw [hz'] at hAO hR hz
        have HAO := Aside0.mk hAO
        obtain ⟨kk, hkk⟩ : ∃ kk, z + 3 = kk := ⟨_, rfl⟩
        rw [hkk] at hR
        have ekk : (z : Int) + 3 = (kk : Int) := by omega
        have hk138 : kk ≤ 138 := by have : z < 128 := Nat.lt_of_lt_of_le hz (by decide); omega
        have hk3 : 3 ≤ kk := by omega
        have hz0 : (z : Int) ≤ 128 := by omega
        obtain ⟨q, hq⟩ : ∃ q, p2 + 2 = q := ⟨_, rfl⟩
        rw [hq] at hAO HAO hR h4
        have hqN : q ≤ N := by omega
        have hpq : p2 ≤ q := by omega
        clear hkk hq h4 hz hz' hAO
        by_cases h6 : n < o'.length + kk
        · rw [if_pos h6] at hR
          have HR2 := Aside0.mk hR
          have d6 : decide ((n : Int) - (o'.length : Int) < (kk : Int)) = true := decide_eq_true (by omega)
          clear hR h6
          go_wp2_with fail
          refine (HAO.out _ (HX1.out.below (by repeat (first | exact Below.refl _ _ | apply below_alloc)))).mono ?_
          rintro e w2 ⟨rfl, hX2, hk2⟩
          have HX2 := Aside0.mk hX2
          have HK2 := Aside0.mk ((keep_alloc2 HK1.out _).trans hk2 (.inl rfl))
          have HO2 := Aside0.mk (R_keepB (Kd.R_below HO1.out (below_alloc (Below.refl _ _) _)) (HX1.out.below (below_alloc (Below.refl _ _) _)).1 (by decide) hk2)
          clear hX2 hk2 HAO HX1 HK1 HO1
          go_wp2
          go_ret2
          exact .inl ⟨2, HR2.out.symm, rfl, (HX2.out.below (below_alloc (Below.refl _ _) _)).2.2.2.2.2.2, by decide⟩
        rw [if_neg h6] at hR
        have hle6 : o'.length + kk ≤ n := by omega
        have d6 : decide ((n : Int) - (o'.length : Int) < (kk : Int)) = false := decide_eq_false (by omega)
        rw [if_pos rfl] at hR
        obtain ⟨x, hx⟩ : ∃ x, rd o' ((o'.length : Int) - 1) = x := ⟨_, rfl⟩
        rw [hx] at hR
        have HR2 := Aside0.mk hR
        have HXV := Aside0.mk hx
        clear hR h6 hx
        go_wp2_with fail
        refine (HAO.out _ (HX1.out.below (by repeat (first | exact Below.refl _ _ | apply below_alloc)))).mono ?_
        rintro e w2 ⟨rfl, hX2, hk2⟩
        have HX2 := Aside0.mk hX2
        have HK2 := Aside0.mk ((keep_alloc2 HK1.out _).trans hk2 (.inl rfl))
        have HO2 := Aside0.mk (R_keepB (Kd.R_below HO1.out (below_alloc (Below.refl _ _) _)) (HX1.out.below (below_alloc (Below.refl _ _) _)).1 (by decide) hk2)
        clear hX2 hk2 HAO HX1 HK1 HO1
        obtain ⟨ga, ca, ea, _, _, _, _⟩ := Kd.R_form HO2.out (by omega)
        cases ea
        obtain ⟨mm, hmm⟩ : ∃ mm : Nat, (o'.length : Int) - 1 = mm := ⟨o'.length - 1, by omega⟩
        obtain ⟨hxs, hxf⟩ := Kd.R_celln 0 HO2.out (mm : Int) (by omega) (by omega)
        rw [Int.toNat_natCast] at hxs
        replace hxs : w2.cell? ⟨ga, mm, none⟩ = some (.int .i64 x) := hxs.trans (by rw [← HXV.out, hmm]; rfl)
        have m0 : 0 ≤ (mm : Int) := by omega
        have m1 : (mm : Int) < (o'.length : Int) := by omega
        go_wp2_with fail
        refine (same_calls2 w.heap.size _ o' kk x w0 _ HW.out (by have := HK2.out.1; simp; omega) (below_alloc HX2.out.2.2.2.2.2.2 _) (Kd.R_below HO2.out (below_alloc (Below.refl _ _) _)) (by omega) (by omega)).mono ?_
        rintro e w3 ⟨v3, rfl, hO3, hB3, hk3, hs3⟩
        have HLOC := Aside0.mk (IsR.loc HX.out (HX2.out.below (below_alloc (Below.refl _ _) _)) (keep_alloc2 HK2.out _) hB3 hk3 hs3)
        have HO3 := Aside0.mk hO3
        clear hO3 hB3 hk3 hs3
        go_wp2
        go_roundg f
        case measure => exact Nat.lt_succ_self _
        case rel => exact ⟨q, o' ++ List.replicate kk x, ⟨HLOC.out.1⟩, ⟨HLOC.out.2⟩, HO3, HR2, ⟨hqN, by have := HP.out; rw [List.length_append, List.length_replicate]; omega, by rw [List.length_append, List.length_replicate]; omega⟩⟩
      · clear h3 d2 h2 hs19
        have eB : againB 17 = 3 := rfl
        have eC : againC 17 = 3 := rfl
        rw [eB, eC] at hR
        by_cases h4 : N < p2 + 3
        · rw [if_pos h4] at hR
          have HR2 := Aside0.mk hR
          have HAO := Aside0.mk (fun W hX => rbits_bad g A0 c0 Z N p2 3 vo vk out ks most w0 W hX hN HP2.out.1 h4)
          clear hR h4
          go_wp2_with fail
          refine (HAO.out _ (HX1.out.below (by repeat (first | exact Below.refl _ _ | apply below_alloc)))).mono ?_
          rintro e w2 ⟨rfl, hb⟩
          have HX2 := Aside0.mk ((HX1.out.below (by repeat (first | exact Below.refl _ _ | apply below_alloc))).below hb)
          clear hb
          go_wp2
          go_ret2
          exact .inl ⟨3, HR2.out.symm, rfl, HX2.out.2.2.2.2.2.2, by decide⟩
        rw [if_neg h4] at hR
        have hAO := fun W hX => rbits_ok g A0 c0 Z N p2 3 vo vk out ks most w0 W hX hN (by omega) (by omega)
        have hz : Z / 2 ^ p2 % 2 ^ 3 < 2 ^ 3 := Nat.mod_lt _ (Nat.two_pow_pos _)
        obtain ⟨z, hz'⟩ : ∃ z, Z / 2 ^ p2 % 2 ^ 3 = z := ⟨_, rfl⟩
        rw [hz'] at hAO hR hz
        have HAO := Aside0.mk hAO
        obtain ⟨kk, hkk⟩ : ∃ kk, z + 3 = kk := ⟨_, rfl⟩
        rw [hkk] at hR
        have ekk : (z : Int) + 3 = (kk : Int) := by omega
        have hk138 : kk ≤ 138 := by have : z < 128 := Nat.lt_of_lt_of_le hz (by decide); omega
        have hk3 : 3 ≤ kk := by omega
        have hz0 : (z : Int) ≤ 128 := by omega
        obtain ⟨q, hq⟩ : ∃ q, p2 + 3 = q := ⟨_, rfl⟩
        rw [hq] at hAO HAO hR h4
        have hqN : q ≤ N := by omega
        have hpq : p2 ≤ q := by omega
        clear hkk hq h4 hz hz' hAO
        by_cases h6 : n < o'.length + kk
        · rw [if_pos h6] at hR
          have HR2 := Aside0.mk hR
          have d6 : decide ((n : Int) - (o'.length : Int) < (kk : Int)) = true := decide_eq_true (by omega)
          clear hR h6
          go_wp2_with fail
          refine (HAO.out _ (HX1.out.below (by repeat (first | exact Below.refl _ _ | apply below_alloc)))).mono ?_
          rintro e w2 ⟨rfl, hX2, hk2⟩
          have HX2 := Aside0.mk hX2
          have HK2 := Aside0.mk ((keep_alloc2 HK1.out _).trans hk2 (.inl rfl))
          have HO2 := Aside0.mk (R_keepB (Kd.R_below HO1.out (below_alloc (Below.refl _ _) _)) (HX1.out.below (below_alloc (Below.refl _ _) _)).1 (by decide) hk2)
          clear hX2 hk2 HAO HX1 HK1 HO1
          go_wp2
          go_ret2
          exact .inl ⟨2, HR2.out.symm, rfl, (HX2.out.below (below_alloc (Below.refl _ _) _)).2.2.2.2.2.2, by decide⟩
        rw [if_neg h6] at hR
        have hle6 : o'.length + kk ≤ n := by omega
        have d6 : decide ((n : Int) - (o'.length : Int) < (kk : Int)) = false := decide_eq_false (by omega)
        rw [if_neg (by decide)] at hR
        have HR2 := Aside0.mk hR
        clear hR h6
        go_wp2_with fail
        refine (HAO.out _ (HX1.out.below (by repeat (first | exact Below.refl _ _ | apply below_alloc)))).mono ?_
        rintro e w2 ⟨rfl, hX2, hk2⟩
        have HX2 := Aside0.mk hX2
        have HK2 := Aside0.mk ((keep_alloc2 HK1.out _).trans hk2 (.inl rfl))
        have HO2 := Aside0.mk (R_keepB (Kd.R_below HO1.out (below_alloc (Below.refl _ _) _)) (HX1.out.below (below_alloc (Below.refl _ _) _)).1 (by decide) hk2)
        clear hX2 hk2 HAO HX1 HK1 HO1
        go_wp2_with fail
        refine (same_calls2 w.heap.size _ o' kk 0 w0 _ HW.out (by have := HK2.out.1; simp; omega) (below_alloc HX2.out.2.2.2.2.2.2 _) (Kd.R_below HO2.out (below_alloc (Below.refl _ _) _)) (by omega) (by omega)).mono ?_
        rintro e w3 ⟨v3, rfl, hO3, hB3, hk3, hs3⟩
        have HLOC := Aside0.mk (IsR.loc HX.out (HX2.out.below (below_alloc (Below.refl _ _) _)) (keep_alloc2 HK2.out _) hB3 hk3 hs3)
        have HO3 := Aside0.mk hO3
        clear hO3 hB3 hk3 hs3
        go_wp2
        go_roundg f
        case measure => exact Nat.lt_succ_self _
        case rel => exact ⟨q, o' ++ List.replicate kk 0, ⟨HLOC.out.1⟩, ⟨HLOC.out.2⟩, HO3, HR2, ⟨hqN, by have := HP.out; rw [List.length_append, List.length_replicate]; omega, by rw [List.length_append, List.length_replicate]; omega⟩⟩
      · clear h3 d2 h2 hs19
        have eB : againB 18 = 7 := rfl
        have eC : againC 18 = 11 := rfl
        rw [eB, eC] at hR
        by_cases h4 : N < p2 + 7
        · rw [if_pos h4] at hR
          have HR2 := Aside0.mk hR
          have HAO := Aside0.mk (fun W hX => rbits_bad g A0 c0 Z N p2 7 vo vk out ks most w0 W hX hN HP2.out.1 h4)
          clear hR h4
          go_wp2_with fail
          refine (HAO.out _ (HX1.out.below (by repeat (first | exact Below.refl _ _ | apply below_alloc)))).mono ?_
          rintro e w2 ⟨rfl, hb⟩
          have HX2 := Aside0.mk ((HX1.out.below (by repeat (first | exact Below.refl _ _ | apply below_alloc))).below hb)
          clear hb
          go_wp2
          go_ret2
          exact .inl ⟨3, HR2.out.symm, rfl, HX2.out.2.2.2.2.2.2, by decide⟩
        rw [if_neg h4] at hR
        have hAO := fun W hX => rbits_ok g A0 c0 Z N p2 7 vo vk out ks most w0 W hX hN (by omega) (by omega)
        have hz : Z / 2 ^ p2 % 2 ^ 7 < 2 ^ 7 := Nat.mod_lt _ (Nat.two_pow_pos _)
        obtain ⟨z, hz'⟩ : ∃ z, Z / 2 ^ p2 % 2 ^ 7 = z := ⟨_, rfl⟩
        rw [hz'] at hAO hR hz
        have HAO := Aside0.mk hAO
        obtain ⟨kk, hkk⟩ : ∃ kk, z + 11 = kk := ⟨_, rfl⟩
        rw [hkk] at hR
        have ekk : (z : Int) + 11 = (kk : Int) := by omega
        have hk138 : kk ≤ 138 := by have : z < 128 := Nat.lt_of_lt_of_le hz (by decide); omega
        have hk3 : 3 ≤ kk := by omega
        have hz0 : (z : Int) ≤ 128 := by omega
        obtain ⟨q, hq⟩ : ∃ q, p2 + 7 = q := ⟨_, rfl⟩
        rw [hq] at hAO HAO hR h4
        have hqN : q ≤ N := by omega
        have hpq : p2 ≤ q := by omega
        clear hkk hq h4 hz hz' hAO
        by_cases h6 : n < o'.length + kk
        · rw [if_pos h6] at hR
          have HR2 := Aside0.mk hR
          have d6 : decide ((n : Int) - (o'.length : Int) < (kk : Int)) = true := decide_eq_true (by omega)
          clear hR h6
          go_wp2_with fail
          refine (HAO.out _ (HX1.out.below (by repeat (first | exact Below.refl _ _ | apply below_alloc)))).mono ?_
          rintro e w2 ⟨rfl, hX2, hk2⟩
          have HX2 := Aside0.mk hX2
          have HK2 := Aside0.mk ((keep_alloc2 HK1.out _).trans hk2 (.inl rfl))
          have HO2 := Aside0.mk (R_keepB (Kd.R_below HO1.out (below_alloc (Below.refl _ _) _)) (HX1.out.below (below_alloc (Below.refl _ _) _)).1 (by decide) hk2)
          clear hX2 hk2 HAO HX1 HK1 HO1
          go_wp2
          go_ret2
          exact .inl ⟨2, HR2.out.symm, rfl, (HX2.out.below (below_alloc (Below.refl _ _) _)).2.2.2.2.2.2, by decide⟩
        rw [if_neg h6] at hR
        have hle6 : o'.length + kk ≤ n := by omega
        have d6 : decide ((n : Int) - (o'.length : Int) < (kk : Int)) = false := decide_eq_false (by omega)
        rw [if_neg (by decide)] at hR
        have HR2 := Aside0.mk hR
        clear hR h6
        go_wp2_with fail
        refine (HAO.out _ (HX1.out.below (by repeat (first | exact Below.refl _ _ | apply below_alloc)))).mono ?_
        rintro e w2 ⟨rfl, hX2, hk2⟩
        have HX2 := Aside0.mk hX2
        have HK2 := Aside0.mk ((keep_alloc2 HK1.out _).trans hk2 (.inl rfl))
        have HO2 := Aside0.mk (R_keepB (Kd.R_below HO1.out (below_alloc (Below.refl _ _) _)) (HX1.out.below (below_alloc (Below.refl _ _) _)).1 (by decide) hk2)
        clear hX2 hk2 HAO HX1 HK1 HO1
        go_wp2_with fail
        refine (same_calls2 w.heap.size _ o' kk 0 w0 _ HW.out (by have := HK2.out.1; simp; omega) (below_alloc HX2.out.2.2.2.2.2.2 _) (Kd.R_below HO2.out (below_alloc (Below.refl _ _) _)) (by omega) (by omega)).mono ?_
        rintro e w3 ⟨v3, rfl, hO3, hB3, hk3, hs3⟩
        have HLOC := Aside0.mk (IsR.loc HX.out (HX2.out.below (below_alloc (Below.refl _ _) _)) (keep_alloc2 HK2.out _) hB3 hk3 hs3)
        have HO3 := Aside0.mk hO3
        clear hO3 hB3 hk3 hs3
        go_wp2
        go_roundg f
        case measure => exact Nat.lt_succ_self _
        case rel => exact ⟨q, o' ++ List.replicate kk 0, ⟨HLOC.out.1⟩, ⟨HLOC.out.2⟩, HO3, HR2, ⟨hqN, by have := HP.out; rw [List.length_append, List.length_replicate]; omega, by rw [List.length_append, List.length_replicate]; omega⟩⟩

end Go.Proofs.Ytmanmjjjepdhlaa.XPrefix
