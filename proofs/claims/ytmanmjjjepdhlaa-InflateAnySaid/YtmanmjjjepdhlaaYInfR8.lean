/- the document: own It has no conditions. -/
import Derived.Test.YtmanmjjjepdhlaaYInfR7
import Derived.Test.YtmanmjjjepdhlaaYIB
import Derived.BigRegion
import Derived.RegionTactic
import Derived.ChangeAlike
import Derived.Deep.RegionWith
import Derived.Deep.RegionLaw
import Derived.Laws.Tables
import Derived.Deep.QuietTactic
import Derived.BigQuiet
import Derived.Deep.RegionHeld3
import Derived.Deep.AppendLies
import Derived.Deep.DrawnRows
import Derived.Laws.CopyOwn
import Derived.Deep.MidRow
import Derived.Laws.ResultCell
import Derived.ChangeKeysEq
import Derived.Laws.BitsAllLaws
namespace Go.Proofs.Ytmanmjjjepdhlaa.XPrefix
set_option linter.unusedVariables false
set_option linter.unusedSimpArgs false
open Go.RowKit Go.Proofs.YtmanmjjjepdhlaaW.PrintWords Go.Proofs.YtmanmjjjepdhlaaW.PrintLast Go.Proofs.YtmanmjjjepdhlaaW.PrintMore
attribute [local go_sem] max2_int min2_int max_two min_two max_three min_three max_four min_four

open XInflateAny XTok
theorem IsR.locB {w0 w w1 w9 : World} {g : Nat} {A0 : Option Addr} {c0 Z N p q : Nat} {vo vk : Value} {out ks : List Int} {most : Int} (h : IsR w0 w g A0 c0 Z N p vo out most vk ks) (h1 : IsR w0 w1 g A0 c0 Z N q vo out most vk ks) (hk : KeepBut w w1 g none) (hb : Below w.heap.size w1 w9) : IsR w0 w9 g A0 c0 Z N q vo out most vk ks ∧ KeepBut w w9 g none :=
  IsR.loc h h1 hk (below_base h1.2.2.2.2.2.2 hb h.base_le) (fun k hk => hb.block k hk) hb.size
/-- The three numbers at the head, when j of them are read. -/
def St3 (Z N p j q x y z : Nat) : Prop := q ≤ N ∧ ((j = 0 ∧ q = p ∧ x = 0 ∧ y = 0 ∧ z = 0) ∨ (j = 1 ∧ q = p + 5 ∧ x = Z / 2 ^ p % 2 ^ 5 + 257 ∧ y = 0 ∧ z = 0) ∨ (j = 2 ∧ q = p + 10 ∧ x = Z / 2 ^ p % 2 ^ 5 + 257 ∧ y = Z / 2 ^ (p + 5) % 2 ^ 5 + 1 ∧ z = 0) ∨ (j = 3 ∧ q = p + 14 ∧ x = Z / 2 ^ p % 2 ^ 5 + 257 ∧ y = Z / 2 ^ (p + 5) % 2 ^ 5 + 1 ∧ z = Z / 2 ^ (p + 10) % 2 ^ 4 + 4))
def ROPost (w0 w : World) (g : Nat) (A0 : Option Addr) (c0 Z N : Nat) (vo : Value) (out : List Int) (most : Int) (vk : Value) (ks : List Int) (R : Except Int (List Int × List Int × Nat)) (e : Ending) (w' : World) : Prop :=
  (∃ er, R = .error er ∧ e = .returned (.tuple #[.slice none 0 0, .slice none 0 0, .int .i64 er]) ∧ Below w0.heap.size w0 w' ∧ er ≠ 0) ∨
  (∃ la lb q Aa Ab ca cb, R = .ok (la, lb, q) ∧ e = .returned (.tuple #[.slice Aa la.length ca, .slice Ab lb.length cb, .int .i64 0]) ∧ Row3 w' Aa la ∧ Row3 w' Ab lb ∧ la.length ≤ ca ∧ lb.length ≤ cb ∧ eS la = 0 ∧ eS lb = 0 ∧ IsR w0 w' g A0 c0 Z N q vo out most vk ks ∧ KeepBut w w' g none ∧ q ≤ N)
def RRQ (w0 w : World) (g : Nat) (A0 : Option Addr) (c0 Z N : Nat) (vo : Value) (out : List Int) (most : Int) (vk : Value) (ks : List Int) (R : Except Int (List Int × Nat)) (v : Value) (er : Int) (w' : World) : Prop :=
  (R = .error er ∧ Below w0.heap.size w0 w' ∧ er ≠ 0) ∨ (er = 0 ∧ ∃ l q, R = .ok (l, q) ∧ Kd.R (Kd.int .i64) 3 w' w.heap.size (fun _ => True) v l ∧ IsR w0 w' g A0 c0 Z N q vo out most vk ks ∧ KeepBut w w' g none ∧ q ≤ N)
theorem rrow_calls' (g : Nat) (A0 : Option Addr) (c0 Z N p n : Nat) (Af : Option Addr) (cf : Nat) (l1 : List Int) (vo vk : Value) (out ks : List Int) (most : Int) (w0 w : World) (hR : IsR w0 w g A0 c0 Z N p vo out most vk ks) (hN : N ≤ 800000) (hp : p ≤ N) (hK : eS l1 = 0) (hC : Row3 w Af l1) (hcf : l1.length ≤ cf) (h19 : l1.length = 19) (hn : n ≤ 1000) :
    Calls Try.prog 123 #[.pointer (some ⟨g, 0, none⟩), .slice Af l1.length cf, .int .i64 n] w fun e w' => ∃ v er, e = .returned (.tuple #[v, .int .i64 er]) ∧ RRQ w0 w g A0 c0 Z N vo out most vk ks (rowS l1 Z N n (n + 1) [] p) v er w' :=
  (rrow_calls g A0 c0 Z N p n Af cf l1 vo vk out ks most w0 w hR hN hp hK hC hcf h19 hn).mono (fun _ _ h => by
    rcases h with ⟨er, h1, h2, h3, h4⟩ | ⟨l, q, v, h1, h2, h3, h4, h5, h6⟩
    · exact ⟨_, er, h2, .inl ⟨h1, h3, h4⟩⟩
    · exact ⟨v, 0, h2, .inr ⟨rfl, l, q, h1, h3, h4, h5, h6⟩⟩)
set_option maxHeartbeats 4000000 in
set_option maxRecDepth 100000 in
theorem rown_calls (g : Nat) (A0 : Option Addr) (c0 Z N p : Nat) (vo vk : Value) (out ks : List Int) (most : Int) (w0 w : World) (hR : IsR w0 w g A0 c0 Z N p vo out most vk ks) (hN : N ≤ 800000) (hp : p ≤ N) :
    Calls Try.prog 94 #[.pointer (some ⟨g, 0, none⟩)] w fun e w' => ROPost w0 w g A0 c0 Z N vo out most vk ks (ownS Z N p) e w' := by
  obtain ⟨R, hRR⟩ : ∃ R, ownS Z N p = R := ⟨_, rfl⟩
  rw [hRR]
  unfold ownS at hRR
  have HX := Aside0.mk hR
  have HR := Aside0.mk hRR
  have HW := Aside0.mk hR.base_le
  clear hR hRR
  go_enter Try.func94, Try.ntmps94
  go_wp2
  go_loopw [6] (fun v6 wr => ∃ (j q x y z : Nat), v6 = .int .i64 (j : Int) ∧ j ≤ 3 ∧ Aside0 (St3 Z N p j q x y z) ∧ Aside0 (IsR w0 wr g A0 c0 Z N q vo out most vk ks) ∧ Aside0 (KeepBut w wr g none) ∧ Aside0 (wr.heap[w.heap.size]? = some (.cells #[.int .i64 (x : Int), .int .i64 (y : Int), .int .i64 (z : Int)] 3 (0, 0)))) (fun v6 _ => 4 - (intOf v6).toNat)
  case atStart => exact ⟨0, p, 0, 0, 0, rfl, by omega, ⟨hp, .inl ⟨rfl, rfl, rfl, rfl, rfl⟩⟩, ⟨HX.out.below (below_alloc (Below.refl _ _) _)⟩, ⟨keep_alloc2 (KeepBut.refl _ _ _) _⟩, ⟨heap_alloc_new w _⟩⟩
  case round =>
    obtain ⟨j, q, x, y, z, rfl, hj, ST, HXR, HKR, BK⟩ := hrel
    obtain ⟨hqN, ⟨rfl, rfl, rfl, rfl, rfl⟩ | ⟨rfl, rfl, rfl, rfl, rfl⟩ | ⟨rfl, rfl, rfl, rfl, rfl⟩ | ⟨rfl, rfl, rfl, rfl, rfl⟩⟩ := ST.out
    · by_cases hb : N < q + 5
      · have HRE := Aside0.mk (show R = .error 3 by have := HR.out; rw [if_pos (by omega)] at this; exact this.symm)
        have HAO := Aside0.mk (fun W hX => rbits_bad g A0 c0 Z N q 5 vo vk out ks most w0 W hX hN hqN hb)
        clear hb
        have hgn := Aside0.mk (show w.heap.size ≠ g from fun e => by have := blk_lt HX.out.1; omega)
        go_wp2_with fail
        refine (HAO.out _ (HXR.out.below (by repeat (first | exact Below.refl _ _ | apply below_alloc)))).mono ?_
        rintro e w2 ⟨rfl, hb⟩
        have HX2 := Aside0.mk ((HXR.out.below (by repeat (first | exact Below.refl _ _ | apply below_alloc))).below hb)
        clear hb
        go_wp2
        go_ret3
        exact .inl ⟨3, HRE.out, rfl, HX2.out.2.2.2.2.2.2, by decide⟩
      · have hAO := fun W hX => rbits_ok g A0 c0 Z N q 5 vo vk out ks most w0 W hX hN (by omega) (by omega)
        obtain ⟨v, hv⟩ : ∃ v, Z / 2 ^ q % 2 ^ 5 = v := ⟨_, rfl⟩
        have hv32 : v < 32 := by rw [← hv]; exact Nat.mod_lt _ (by decide)
        rw [hv] at hAO
        have HAO := Aside0.mk hAO
        have HST : Aside0 (St3 Z N q 1 (q + 5) (v + 257) 0 0) := ⟨by omega, .inr (.inl ⟨rfl, rfl, by rw [hv], rfl, rfl⟩)⟩
        clear hAO hb
        have hgn := Aside0.mk (show w.heap.size ≠ g from fun e => by have := blk_lt HX.out.1; omega)
        go_wp2_with fail
        refine (HAO.out _ (HXR.out.below (by repeat (first | exact Below.refl _ _ | apply below_alloc)))).mono ?_
        rintro e w2 ⟨rfl, hX2, hk2⟩
        have HX2 := Aside0.mk hX2
        have HK2 := Aside0.mk ((keep_alloc2 HKR.out _).trans hk2 (.inl rfl))
        have BK2 := Aside0.mk (hk2.blk (blk_alloc BK.out _) hgn.out (by simp))
        clear hX2 hk2 HAO HXR HKR BK hv
        have hcl := blk_cell BK2.out 0
        have hcf := blk_frozen BK2.out 0
        have hlt2 := blk_lt BK2.out
        go_wp2_with fail
        go_roundw
        case rel => exact ⟨0 + 1, _, _, _, _, rfl, by omega, HST, ⟨(IsR.locB HX.out HX2.out HK2.out (((Below.refl w.heap.size w2).setCell (p := ⟨w.heap.size, 0, none⟩) (Nat.le_refl _) _).alloc (by rw [World.size_setCell]; exact HK2.out.1) _)).1⟩, ⟨(IsR.locB HX.out HX2.out HK2.out (((Below.refl w.heap.size w2).setCell (p := ⟨w.heap.size, 0, none⟩) (Nat.le_refl _) _).alloc (by rw [World.size_setCell]; exact HK2.out.1) _)).2⟩, ⟨blk_alloc (blk_put BK2.out 0 _ rfl) _⟩⟩
        case measure => simp [intOf]
    · by_cases hb : N < p + 5 + 5
      · have HRE := Aside0.mk (show R = .error 3 by have := HR.out; rw [if_pos (by omega)] at this; exact this.symm)
        have HAO := Aside0.mk (fun W hX => rbits_bad g A0 c0 Z N (p + 5) 5 vo vk out ks most w0 W hX hN hqN hb)
        clear hb
        have hgn := Aside0.mk (show w.heap.size ≠ g from fun e => by have := blk_lt HX.out.1; omega)
        go_wp2_with fail
        refine (HAO.out _ (HXR.out.below (by repeat (first | exact Below.refl _ _ | apply below_alloc)))).mono ?_
        rintro e w2 ⟨rfl, hb⟩
        have HX2 := Aside0.mk ((HXR.out.below (by repeat (first | exact Below.refl _ _ | apply below_alloc))).below hb)
        clear hb
        go_wp2
        go_ret3
        exact .inl ⟨3, HRE.out, rfl, HX2.out.2.2.2.2.2.2, by decide⟩
      · have hAO := fun W hX => rbits_ok g A0 c0 Z N (p + 5) 5 vo vk out ks most w0 W hX hN (by omega) (by omega)
        obtain ⟨v, hv⟩ : ∃ v, Z / 2 ^ (p + 5) % 2 ^ 5 = v := ⟨_, rfl⟩
        have hv32 : v < 32 := by rw [← hv]; exact Nat.mod_lt _ (by decide)
        rw [hv] at hAO
        have HAO := Aside0.mk hAO
        have HST : Aside0 (St3 Z N p 2 (p + 5 + 5) (Z / 2 ^ p % 2 ^ 5 + 257) (v + 1) 0) := ⟨by omega, .inr (.inr (.inl ⟨rfl, rfl, rfl, by rw [hv], rfl⟩))⟩
        obtain ⟨x, hx⟩ : ∃ x, Z / 2 ^ p % 2 ^ 5 + 257 = x := ⟨_, rfl⟩
        rw [hx] at HST BK
        clear hAO hb hx
        have hgn := Aside0.mk (show w.heap.size ≠ g from fun e => by have := blk_lt HX.out.1; omega)
        go_wp2_with fail
        refine (HAO.out _ (HXR.out.below (by repeat (first | exact Below.refl _ _ | apply below_alloc)))).mono ?_
        rintro e w2 ⟨rfl, hX2, hk2⟩
        have HX2 := Aside0.mk hX2
        have HK2 := Aside0.mk ((keep_alloc2 HKR.out _).trans hk2 (.inl rfl))
        have BK2 := Aside0.mk (hk2.blk (blk_alloc BK.out _) hgn.out (by simp))
        clear hX2 hk2 HAO HXR HKR BK hv
        have hcl := blk_cell BK2.out 1
        have hcf := blk_frozen BK2.out 1
        have hlt2 := blk_lt BK2.out
        go_wp2_with fail
        go_roundw
        case rel => exact ⟨1 + 1, _, _, _, _, rfl, by omega, HST, ⟨(IsR.locB HX.out HX2.out HK2.out (((Below.refl w.heap.size w2).setCell (p := ⟨w.heap.size, 1, none⟩) (Nat.le_refl _) _).alloc (by rw [World.size_setCell]; exact HK2.out.1) _)).1⟩, ⟨(IsR.locB HX.out HX2.out HK2.out (((Below.refl w.heap.size w2).setCell (p := ⟨w.heap.size, 1, none⟩) (Nat.le_refl _) _).alloc (by rw [World.size_setCell]; exact HK2.out.1) _)).2⟩, ⟨blk_alloc (blk_put BK2.out 1 _ rfl) _⟩⟩
        case measure => simp [intOf]
    · by_cases hb : N < p + 10 + 4
      · have HRE := Aside0.mk (show R = .error 3 by have := HR.out; rw [if_pos (by omega)] at this; exact this.symm)
        have HAO := Aside0.mk (fun W hX => rbits_bad g A0 c0 Z N (p + 10) 4 vo vk out ks most w0 W hX hN hqN hb)
        clear hb
        have hgn := Aside0.mk (show w.heap.size ≠ g from fun e => by have := blk_lt HX.out.1; omega)
        go_wp2_with fail
        refine (HAO.out _ (HXR.out.below (by repeat (first | exact Below.refl _ _ | apply below_alloc)))).mono ?_
        rintro e w2 ⟨rfl, hb⟩
        have HX2 := Aside0.mk ((HXR.out.below (by repeat (first | exact Below.refl _ _ | apply below_alloc))).below hb)
        clear hb
        go_wp2
        go_ret3
        exact .inl ⟨3, HRE.out, rfl, HX2.out.2.2.2.2.2.2, by decide⟩
      · have hAO := fun W hX => rbits_ok g A0 c0 Z N (p + 10) 4 vo vk out ks most w0 W hX hN (by omega) (by omega)
        obtain ⟨v, hv⟩ : ∃ v, Z / 2 ^ (p + 10) % 2 ^ 4 = v := ⟨_, rfl⟩
        have hv32 : v < 16 := by rw [← hv]; exact Nat.mod_lt _ (by decide)
        rw [hv] at hAO
        have HAO := Aside0.mk hAO
        have HST : Aside0 (St3 Z N p 3 (p + 10 + 4) (Z / 2 ^ p % 2 ^ 5 + 257) (Z / 2 ^ (p + 5) % 2 ^ 5 + 1) (v + 4)) := ⟨by omega, .inr (.inr (.inr ⟨rfl, rfl, rfl, rfl, by rw [hv]⟩))⟩
        obtain ⟨x, hx⟩ : ∃ x, Z / 2 ^ p % 2 ^ 5 + 257 = x := ⟨_, rfl⟩
        obtain ⟨y, hy⟩ : ∃ y, Z / 2 ^ (p + 5) % 2 ^ 5 + 1 = y := ⟨_, rfl⟩
        rw [hx, hy] at HST BK
        clear hAO hb hx hy
        have hgn := Aside0.mk (show w.heap.size ≠ g from fun e => by have := blk_lt HX.out.1; omega)
        go_wp2_with fail
        refine (HAO.out _ (HXR.out.below (by repeat (first | exact Below.refl _ _ | apply below_alloc)))).mono ?_
        rintro e w2 ⟨rfl, hX2, hk2⟩
        have HX2 := Aside0.mk hX2
        have HK2 := Aside0.mk ((keep_alloc2 HKR.out _).trans hk2 (.inl rfl))
        have BK2 := Aside0.mk (hk2.blk (blk_alloc BK.out _) hgn.out (by simp))
        clear hX2 hk2 HAO HXR HKR BK hv
        have hcl := blk_cell BK2.out 2
        have hcf := blk_frozen BK2.out 2
        have hlt2 := blk_lt BK2.out
        go_wp2_with fail
        go_roundw
        case rel => exact ⟨2 + 1, _, _, _, _, rfl, by omega, HST, ⟨(IsR.locB HX.out HX2.out HK2.out (((Below.refl w.heap.size w2).setCell (p := ⟨w.heap.size, 2, none⟩) (Nat.le_refl _) _).alloc (by rw [World.size_setCell]; exact HK2.out.1) _)).1⟩, ⟨(IsR.locB HX.out HX2.out HK2.out (((Below.refl w.heap.size w2).setCell (p := ⟨w.heap.size, 2, none⟩) (Nat.le_refl _) _).alloc (by rw [World.size_setCell]; exact HK2.out.1) _)).2⟩, ⟨blk_alloc (blk_put BK2.out 2 _ rfl) _⟩⟩
        case measure => simp [intOf]
    · have hR := HR.out
      rw [if_neg (by omega)] at hR
      obtain ⟨a, ha⟩ : ∃ a, Z / 2 ^ p % 2 ^ 5 + 257 = a := ⟨_, rfl⟩
      obtain ⟨b, hb⟩ : ∃ b, Z / 2 ^ (p + 5) % 2 ^ 5 + 1 = b := ⟨_, rfl⟩
      obtain ⟨c, hc⟩ : ∃ c, Z / 2 ^ (p + 10) % 2 ^ 4 + 4 = c := ⟨_, rfl⟩
      have ha2 : a ≤ 288 := by have : Z / 2 ^ p % 2 ^ 5 < 32 := Nat.mod_lt _ (by decide); omega
      have hb2 : b ≤ 32 := by have : Z / 2 ^ (p + 5) % 2 ^ 5 < 32 := Nat.mod_lt _ (by decide); omega
      have hc2 : c ≤ 19 := by have : Z / 2 ^ (p + 10) % 2 ^ 4 < 16 := Nat.mod_lt _ (by decide); omega
      have ha1 : 257 ≤ a := by omega
      have hb1 : 1 ≤ b := by omega
      rw [ha, hb, hc] at hR BK
      clear ha hb hc ST HR
      unfold ownS2 at hR
      obtain ⟨r, hr⟩ : ∃ r, p + 14 = r := ⟨_, rfl⟩
      rw [hr] at hR HXR hqN
      clear hr hp
      have hn0 := blk_cell BK.out 0
      have hn1 := blk_cell BK.out 1
      have hn2 := blk_cell BK.out 2
      by_cases h2 : 286 < a ∨ 30 < b
      · rw [if_pos h2] at hR
        have HR := Aside0.mk hR
        clear hR
        by_cases h3 : 286 < a
        · have d3 : decide (286 < (a : Int)) = true := decide_eq_true (by omega)
          have d3b : decide (286 < a) = true := decide_eq_true h3
          clear h2
          go_wp2
          go_ret3
          exact .inl ⟨2, HR.out.symm, rfl, HXR.out.2.2.2.2.2.2, by decide⟩
        · have d3 : decide (286 < (a : Int)) = false := decide_eq_false (by omega)
          have d3b : decide (286 < a) = false := decide_eq_false h3
          have d4 : decide (30 < (b : Int)) = true := decide_eq_true (by omega)
          have d4b : decide (30 < b) = true := decide_eq_true (by omega)
          clear h2
          go_wp2
          go_ret3
          exact .inl ⟨2, HR.out.symm, rfl, HXR.out.2.2.2.2.2.2, by decide⟩
      rw [if_neg h2] at hR
      have d3 : decide (286 < (a : Int)) = false := decide_eq_false (by omega)
      have d3b : decide (286 < a) = false := decide_eq_false (by omega)
      have d4 : decide (30 < (b : Int)) = false := decide_eq_false (by omega)
      have d4b : decide (30 < b) = false := decide_eq_false (by omega)
      have HR := Aside0.mk hR
      have hgw := HKR.out.1
      have hgo := blk_lt BK.out
      clear hR h2
      rw [show ((3 : Nat) : Int) = 3 from rfl]
      have hmk : ∀ W : World, (Instr.makeSlice 22 (.int .i64 19) (.int .i64 19)).run Try.prog W = .ok (.slice (some ⟨W.heap.size, 0, none⟩) 19 19) (W.alloc (.cells (encs (Value.int .i64) (List.replicate 19 0)).toArray 3)) := fun W => by kernel_rfl
      go_wp2
      clear hmk
      obtain ⟨go, hgo2⟩ : ∃ go, wr.heap.size = go := ⟨_, rfl⟩
      rw [hgo2]
      have HB2 := Aside0.mk (show Below w.heap.size wr ((wr.alloc (.cells (encs (Value.int .i64) ordL).toArray 3)).alloc (.cells (encs (Value.int .i64) (firstL Z r 0)).toArray 3)) from ((Below.refl w.heap.size wr).alloc hgw _).alloc (by simp; omega) _)
      have HX3 := Aside0.mk (IsR.locB HX.out HXR.out HKR.out HB2.out).1
      have HK3 := Aside0.mk (IsR.locB HX.out HXR.out HKR.out HB2.out).2
      have BN3 := Aside0.mk (blk_alloc (blk_alloc BK.out (.cells (encs (Value.int .i64) ordL).toArray 3)) (.cells (encs (Value.int .i64) (firstL Z r 0)).toArray 3))
      have BO3 := Aside0.mk (show ((wr.alloc (.cells (encs (Value.int .i64) ordL).toArray 3)).alloc (.cells (encs (Value.int .i64) (firstL Z r 0)).toArray 3)).heap[go]? = _ from hgo2 ▸ blk_alloc (heap_alloc_new wr _) _)
      have BF3 := Aside0.mk (show ((wr.alloc (.cells (encs (Value.int .i64) ordL).toArray 3)).alloc (.cells (encs (Value.int .i64) (firstL Z r 0)).toArray 3)).heap[go + 1]? = some (.cells (encs (Value.int .i64) (firstL Z r 0)).toArray 3 (0, 0)) from by
        have := heap_alloc_new (wr.alloc (.cells (encs (Value.int .i64) ordL).toArray 3)) (.cells (encs (Value.int .i64) (firstL Z r 0)).toArray 3)
        rw [show (wr.alloc (.cells (encs (Value.int .i64) ordL).toArray 3)).heap.size = go + 1 from by simp; omega] at this
        exact this)
      have hwgo : w.heap.size < go := by omega
      have HGO := Aside0.mk hwgo
      have hgw2 : g < w.heap.size := blk_lt HX.out.1
      clear HXR HKR BK hn0 hn1 hn2 d3 d3b d4 d4b hgw hgo HB2 hgo2
      go_loopw [11] (fun v11 wx => ∃ i : Nat, v11 = .int .i64 (i : Int) ∧ i ≤ c ∧ r + 3 * i ≤ N ∧ Aside0 (IsR w0 wx g A0 c0 Z N (r + 3 * i) vo out most vk ks) ∧ Aside0 (KeepBut w wx g none) ∧ Aside0 (wx.heap[w.heap.size]? = some (.cells #[.int .i64 (a : Int), .int .i64 (b : Int), .int .i64 (c : Int)] 3 (0, 0))) ∧ Aside0 (wx.heap[go]? = some (.cells (encs (Value.int .i64) ordL).toArray 3 (0, 0))) ∧ Aside0 (wx.heap[go + 1]? = some (.cells (encs (Value.int .i64) (firstL Z r i)).toArray 3 (0, 0)))) (fun v11 _ => c + 1 - (intOf v11).toNat)
      case atStart => exact ⟨0, rfl, by omega, by omega, HX3, HK3, BN3, BO3, BF3⟩
      case round =>
        clear HX3 HK3 BN3 BO3 BF3
        obtain ⟨i, rfl, hi, hri, HXR, HKR, BN, BO, BF⟩ := hrel
        have hn2 := blk_cell BN.out 2
        by_cases hlt : i < c
        · have di : decide ((i : Int) < (c : Int)) = true := decide_eq_true (by omega)
          have dib : decide (i < c) = true := decide_eq_true hlt
          have hol := ordL_lt ⟨i, by omega⟩
          change 0 ≤ rd ordL (i : Int) ∧ rd ordL (i : Int) < 19 at hol
          obtain ⟨s, hs⟩ : ∃ s : Nat, rd ordL (i : Int) = s := ⟨(rd ordL (i : Int)).toNat, by omega⟩
          rw [hs] at hol
          have l19 : ordL.length = 19 := rfl
          have hio : i < ordL.length := by omega
          have hoc : (encs (Value.int .i64) ordL).toArray[i]? = some (.int .i64 (s : Int)) := by
            rw [List.getElem?_toArray, encs, List.getElem?_map, List.getElem?_eq_getElem hio]
            show some (Value.int .i64 ordL[i]) = _
            rw [← hs]
            unfold rd
            rw [Int.toNat_natCast, List.getD_eq_getElem?_getD, List.getElem?_eq_getElem hio]
            rfl
          have HOC := Aside0.mk hoc
          have HS := Aside0.mk hs
          have s0 : 0 ≤ (s : Int) := hol.1
          have s1 : (s : Int) < 19 := hol.2
          clear hs hoc hol l19 hio
          by_cases hbad : N < r + 3 * i + 3
          · have HN := Aside0.mk (rbits_bad g A0 c0 Z N (r + 3 * i) 3 vo vk out ks most w0 wr HXR.out hN hri hbad)
            have HRE := Aside0.mk (show R = .error 3 by have := HR.out; rw [if_pos (by omega)] at this; exact this.symm)
            clear hbad
            go_wp2_with fail
            refine HN.out.mono ?_
            rintro e w3 ⟨rfl, hb⟩
            have HX4 := Aside0.mk (HXR.out.below hb)
            clear hb HN
            go_wp2
            go_ret3
            exact .inl ⟨3, HRE.out, rfl, HX4.out.2.2.2.2.2.2, by decide⟩
          · have hnum := rbits_ok g A0 c0 Z N (r + 3 * i) 3 vo vk out ks most w0 wr HXR.out hN (by omega) (by omega)
            obtain ⟨v, hv⟩ : ∃ v, Z / 2 ^ (r + 3 * i) % 2 ^ 3 = v := ⟨_, rfl⟩
            rw [hv] at hnum
            have HN := Aside0.mk hnum
            have HV := Aside0.mk hv
            clear hnum hv hn2
            have hn2 := blk_cell BN.out 2
            go_wp2_with fail
            refine HN.out.mono ?_
            rintro e w3 ⟨rfl, hX3, hk3⟩
            have HX3 := Aside0.mk hX3
            have HK3 := Aside0.mk (HKR.out.trans hk3 (.inl rfl))
            have BN3 := Aside0.mk (hk3.blk BN.out (by omega) (by simp))
            have BO3 := Aside0.mk (hk3.blk BO.out (by omega) (by simp))
            have BF3 := Aside0.mk (hk3.blk BF.out (by omega) (by simp))
            clear hX3 hk3 HN HXR HKR BN BO BF hn2
            have hco : w3.cell? ⟨go, i, none⟩ = some (.int .i64 (s : Int)) := (blk_cell BO3.out i).trans HOC.out
            have hcl := blk_cell BF3.out s
            have hcf := blk_frozen BF3.out s
            have hlt19 : s < (encs (Value.int .i64) (firstL Z r i)).toArray.size := by simp [encs, firstL_len]; omega
            obtain ⟨u, hu⟩ : ∃ u, (encs (Value.int .i64) (firstL Z r i)).toArray[s]? = some u := ⟨_, Array.getElem?_eq_getElem hlt19⟩
            rw [hu] at hcl
            have HNX := Aside0.mk (show (firstL Z r i).set s ((v : Nat) : Int) = firstL Z r (i + 1) by rw [firstL, HS.out, HV.out, Int.toNat_natCast])
            have i0 : 0 ≤ (i : Int) := by omega
            have i19 : (i : Int) < 19 := by omega
            clear hu hlt19
            go_wp2_with fail
            go_roundw
            have HBL := Aside0.mk ((Below.refl w.heap.size w3).setCell (p := ⟨go + 1, s, none⟩) (by have := HGO.out; show w.heap.size ≤ go + 1; omega) (.int .i64 (v : Int)))
            case rel => exact ⟨i + 1, by go_num, by omega, by omega, ⟨(IsR.locB HX.out HX3.out HK3.out HBL.out).1⟩, ⟨(IsR.locB HX.out HX3.out HK3.out HBL.out).2⟩, ⟨(Below.heap_setCell w3 ⟨go + 1, s, none⟩ _ w.heap.size (by show w.heap.size ≠ go + 1; omega)).trans BN3.out⟩, ⟨(Below.heap_setCell w3 ⟨go + 1, s, none⟩ _ go (by show go ≠ go + 1; omega)).trans BO3.out⟩, ⟨blk_put BF3.out s _ (by rw [encs_set, HNX.out])⟩⟩
            case measure => simp [intOf]; omega
        · have di : decide ((i : Int) < (c : Int)) = false := decide_eq_false (by omega)
          have dib : decide (i < c) = false := decide_eq_false hlt
          obtain rfl : i = c := by omega
          have hC := C_of_block BF.out (by rw [firstL_len]; omega)
          have hR := HR.out
          rw [if_neg (by omega)] at hR
          have hspec := kS_spec (firstL Z r i)
          have hL19 : (firstL Z r i).length = 19 := firstL_len _ _ _
          obtain ⟨L, hL⟩ : ∃ L, firstL Z r i = L := ⟨_, rfl⟩
          have hrow3 : Row3 wr (some ⟨go + 1, 0, none⟩) (firstL Z r i) := ⟨C_of_block BF.out (by rw [firstL_len]; omega), go + 1, 0, rfl, _, BF.out⟩
          rw [hL] at hC hspec hL19 hR hrow3
          obtain ⟨kc, hkc⟩ := (check_same L (kS L) (eS L) hspec).rounds
          have hchk := montageref05_Check.calls kc (some ⟨go + 1, 0, none⟩) 19 L (kS L) (eS L) wr hrow3.1 (by omega) hkc
          rw [hL19] at hchk
          have HCHK := Aside0.mk hchk
          have HF := Aside0.mk hrow3
          have HSP := Aside0.mk hspec
          have H19 := Aside0.mk hL19
          obtain ⟨k, hk⟩ : ∃ k, kS L = k := ⟨_, rfl⟩
          obtain ⟨er, her⟩ : ∃ er, eS L = er := ⟨_, rfl⟩
          rw [hk, her] at hR HCHK
          have HKE := Aside0.mk (And.intro hk her)
          have HR1 := Aside0.mk hR
          clear hC hspec hL hL19 hR hkc hchk hrow3 hk her HR BF BO hlt
          go_wp2_with fail
          refine HCHK.out.mono ?_
          rintro e w4 ⟨rfl, hd⟩
          have hb := hd.below
          have HX4 := Aside0.mk (HXR.out.below hb)
          have HK4 := Aside0.mk (HKR.out.trans (KeepBut.of_below hb g none) (.inl rfl))
          have BN4 := Aside0.mk (blk_below BN.out hb)
          have HF4 := Aside0.mk (HF.out.below hb)
          clear hb hd HCHK HXR HKR BN HF hn2 di dib
          by_cases he : er ≠ 0
          · have HRE := Aside0.mk (show R = .error 10 by have := HR1.out; rw [if_pos (.inl he)] at this; exact this.symm)
            have q0 : (er == 0) = false := beq_eq_false_iff_ne.mpr he
            have q1 : (er != 0) = true := bne_iff_ne.mpr he
            clear he
            go_wp2
            go_ret3
            exact .inl ⟨10, HRE.out, rfl, HX4.out.2.2.2.2.2.2, by decide⟩
          obtain rfl : er = 0 := by omega
          by_cases hk2 : k = 2
          · subst hk2
            have HRE := Aside0.mk (show R = .error 10 by have := HR1.out; rw [if_pos (.inr rfl)] at this; exact this.symm)
            go_wp2
            go_ret3
            exact .inl ⟨10, HRE.out, rfl, HX4.out.2.2.2.2.2.2, by decide⟩
          have q0 : (k == 2) = false := beq_eq_false_iff_ne.mpr hk2
          have hR := HR1.out
          rw [if_neg (fun h => h.elim (fun h => he h) (fun h => hk2 h))] at hR
          obtain ⟨nn, hnn⟩ : ∃ nn, a + b = nn := ⟨_, rfl⟩
          have hrowc := fun W (hX : IsR w0 W g A0 c0 Z N (r + 3 * i) vo out most vk ks) (hF : Row3 W (some ⟨go + 1, 0, none⟩) L) => rrow_calls' g A0 c0 Z N (r + 3 * i) (a + b) (some ⟨go + 1, 0, none⟩) 19 L vo vk out ks most w0 W hX hN hri HKE.out.2 hF (by have := H19.out; omega) H19.out (by omega)
          obtain ⟨R2, hR2⟩ : ∃ R2, rowS L Z N (a + b) (a + b + 1) [] (r + 3 * i) = R2 := ⟨_, rfl⟩
          have hKR : KRes L (kS L) 0 := by have := HSP.out; rwa [HKE.out.2] at this
          have HLEN := Aside0.mk (rowS_len hKR hR2 (by omega))
          rw [hR2] at hrowc hR
          rw [hnn] at hrowc HLEN
          rw [H19.out] at hrowc
          have HROW := Aside0.mk hrowc
          have HR := Aside0.mk hR
          have eab : IntKind.i64.wrap ((a : Int) + (b : Int)) = (nn : Int) := by rw [i64_w]; unfold wrap64; omega
          have eab2 : ((a : Int) + (b : Int)) = (nn : Int) := by omega
          have nn1 : nn ≤ 320 := by omega
          have nn2 : a + 1 ≤ nn := by omega
          have hn0 := blk_cell BN4.out 0
          have hn1 := blk_cell BN4.out 1
          have HEB := Aside0.mk eab2
          clear hnn hR hR2 hKR hrowc HSP HR1 hk2 he eab2
          go_wp2
          go_region_law
            ((go_simp; go_at_call 123; refine (HROW.out _ (by first | exact HX4.out | exact HX4.out.below (below_drew1 (Below.refl _ _))) (by first | exact HF4.out | exact HF4.out.below (below_drew1 (Below.refl _ _)))).mono ?_; rintro e w5 ⟨v5, er5, rfl, h5⟩; have H5 := Aside0.mk (show RRQ w0 w4 g A0 c0 Z N vo out most vk ks R2 v5 er5 w5 from h5); clear h5))
          all_goals
            clear eab hn0 hn1 HROW
            rcases H5.out with ⟨hRe, hb5, hne⟩ | ⟨rfl, l, q, hRo, hl5, hX5, hk5, hq⟩
            · have HB5 := Aside0.mk hb5
              have H1 := Aside0.mk hne
              have HRE := Aside0.mk (show Except.error er5 = R by have := HR.out; rw [hRe] at this; exact this)
              have q2 : (er5 == 0) = false := beq_eq_false_iff_ne.mpr hne
              have q3 : (er5 != 0) = true := bne_iff_ne.mpr hne
              clear hb5 hne hRe H5
              go_wp2
              go_ret3
              exact .inl ⟨er5, HRE.out.symm, rfl, HB5.out, H1.out⟩
            have hll : l.length = nn := HLEN.out l q hRo
            have hR5 : (if rd l 256 = 0 then Except.error (2 : Int) else if eS (l.take a) ≠ 0 ∨ eS (l.drop a) ≠ 0 then .error 10 else .ok (l.take a, l.drop a, q)) = R := by
              have := HR.out; rw [hRo] at this; exact this
            have BN5 := Aside0.mk (hk5.blk BN4.out (by have := blk_lt HX.out.1; omega) (by simp))
            have HX5 := Aside0.mk hX5
            have HK5 := Aside0.mk (HK4.out.trans hk5 (.inl rfl))
            obtain ⟨A5, c5, rfl⟩ := Kd.R_slice hl5
            obtain ⟨g5, c5', e5, _, _, _, _⟩ := Kd.R_form hl5 (by omega)
            cases e5
            obtain ⟨hx5, _⟩ := Kd.R_celln 0 hl5 (256 : Int) (by omega) (by omega)
            replace hx5 : w5.cell? ⟨g5, 256, none⟩ = some (.int .i64 (rd l 256)) := hx5.trans rfl
            obtain ⟨_, hcap, hC5⟩ := Kd.R_reads' hl5
            obtain ⟨inner5, ho5⟩ := Kd.R_own hl5
            obtain ⟨cells5, hb5⟩ := own_typed ho5 g5 rfl
            obtain ⟨x256, hx256⟩ : ∃ z, rd l 256 = z := ⟨_, rfl⟩
            rw [hx256] at hx5 hR5
            have hl1 : l.length ≤ nn := by omega
            have hl2 : nn ≤ l.length := by omega
            have HQ := Aside0.mk hq
            have hta : (l.take a).length = a := by rw [List.length_take]; have := HEB.out; omega
            have hda : (l.drop a).length = l.length - a := List.length_drop
            have hra : Row3 w5 (some ⟨g5, 0, none⟩) (l.take a) := ⟨Kd.C_take hC5 (by have := HEB.out; omega), g5, 0, rfl, cells5, hb5⟩
            have hrb : Row3 w5 (some ⟨g5, a, none⟩) (l.drop a) := ⟨by
              have h2 := Kd.C_drop hC5 (m := a) (c := c5) (by have := HEB.out; omega) hcap
              rw [if_neg (by have := HEB.out; omega)] at h2
              have e : (some (⟨g5, 0, none⟩ : Addr)).map (·.add (a * (Kd.int .i64).sz)) = some ⟨g5, a, none⟩ := by
                show some ((⟨g5, 0, none⟩ : Addr).add (a * 1)) = _
                rw [Nat.mul_one]
                unfold Addr.add
                simp
                try omega
              rwa [e] at h2, g5, a, rfl, cells5, hb5⟩
            have HRA := Aside0.mk hra
            have HRB := Aside0.mk hrb
            obtain ⟨ka, hka⟩ := (check_same (l.take a) (kS (l.take a)) (eS (l.take a)) (kS_spec _)).rounds
            obtain ⟨kb, hkb⟩ := (check_same (l.drop a) (kS (l.drop a)) (eS (l.drop a)) (kS_spec _)).rounds
            have hca : ∀ W, Row3 W (some ⟨g5, 0, none⟩) (l.take a) → Calls Try.prog 15 #[.slice (some ⟨g5, 0, none⟩) a c5] W fun e w' => e = .returned (.tuple #[.int .i64 (kS (l.take a)), .int .i64 (eS (l.take a))]) ∧ Drawn0 W w' := fun W h => by
              have h3 := montageref05_Check.calls ka (some ⟨g5, 0, none⟩) c5 (l.take a) (kS (l.take a)) (eS (l.take a)) W h.1 (by have := HEB.out; omega) hka
              rwa [hta] at h3
            have hcb : ∀ W, Row3 W (some ⟨g5, a, none⟩) (l.drop a) → Calls Try.prog 15 #[.slice (some ⟨g5, a, none⟩) (l.length - a) (c5 - a)] W fun e w' => e = .returned (.tuple #[.int .i64 (kS (l.drop a)), .int .i64 (eS (l.drop a))]) ∧ Drawn0 W w' := fun W h => by
              have h3 := montageref05_Check.calls kb (some ⟨g5, a, none⟩) (c5 - a) (l.drop a) (kS (l.drop a)) (eS (l.drop a)) W h.1 (by omega) hkb
              rwa [hda] at h3
            obtain ⟨k1, hk1⟩ : ∃ z, kS (l.take a) = z := ⟨_, rfl⟩
            obtain ⟨k2, hk2⟩ : ∃ z, kS (l.drop a) = z := ⟨_, rfl⟩
            obtain ⟨e1, he1⟩ : ∃ z, eS (l.take a) = z := ⟨_, rfl⟩
            obtain ⟨e2, he2⟩ : ∃ z, eS (l.drop a) = z := ⟨_, rfl⟩
            rw [hk1, he1] at hca
            rw [hk2, he2] at hcb
            rw [he1, he2] at hR5
            have HCA := Aside0.mk hca
            have HCB := Aside0.mk hcb
            have HE := Aside0.mk (And.intro he1 he2)
            have HLT := Aside0.mk (And.intro hta hda)
            have hn0 := blk_cell BN5.out 0
            have cc : ¬ c5 = a := by have := HEB.out; omega
            have cap1 : a ≤ c5 := by have := HEB.out; omega
            have hal : a ≤ l.length := by have := HEB.out; omega
            have hal2 : (a : Int) ≤ (l.length : Int) := by omega
            have HR5 := Aside0.mk hR5
            clear hRo hl5 hX5 hk5 hC5 ho5 hb5 hx256 hq hta hda hra hrb hka hkb hca hcb hk1 hk2 he1 he2 hll hR5 H5 HX4 HK4 BN4 HF4
            by_cases hz : x256 = 0
            · subst hz
              have HRE := Aside0.mk (show R = .error 2 by have := HR5.out; rw [if_pos rfl] at this; exact this.symm)
              go_wp2
              go_ret3
              exact .inl ⟨2, HRE.out, rfl, HX5.out.2.2.2.2.2.2, by decide⟩
            have hR5 := HR5.out
            rw [if_neg hz] at hR5
            have HR6 := Aside0.mk hR5
            have z0 : (x256 == 0) = false := beq_eq_false_iff_ne.mpr hz
            clear hR5 hz
            go_wp2_with fail
            refine (HCA.out _ HRA.out).mono ?_
            rintro e w6 ⟨rfl, hd⟩
            have hb := hd.below
            have HX6 := Aside0.mk (HX5.out.below hb)
            have HK6 := Aside0.mk (HK5.out.trans (KeepBut.of_below hb g none) (.inl rfl))
            have HRA6 := Aside0.mk (HRA.out.below hb)
            have HRB6 := Aside0.mk (HRB.out.below hb)
            clear hb hd HCA HRA HRB HX5 HK5
            go_wp2_with fail
            refine (HCB.out _ HRB6.out).mono ?_
            rintro e w7 ⟨rfl, hd⟩
            have hb := hd.below
            have HX7 := Aside0.mk (HX6.out.below hb)
            have HK7 := Aside0.mk (HK6.out.trans (KeepBut.of_below hb g none) (.inl rfl))
            have HRA7 := Aside0.mk (HRA6.out.below hb)
            have HRB7 := Aside0.mk (HRB6.out.below hb)
            clear hb hd HCB HRA6 HRB6 HX6 HK6
            by_cases h1 : e1 ≠ 0
            · have HRE := Aside0.mk (show R = .error 10 by have := HR6.out; rw [if_pos (.inl h1)] at this; exact this.symm)
              have q2 : (e1 == 0) = false := beq_eq_false_iff_ne.mpr h1
              have q3 : (e1 != 0) = true := bne_iff_ne.mpr h1
              clear h1
              go_wp2
              go_ret3
              exact .inl ⟨10, HRE.out, rfl, HX7.out.2.2.2.2.2.2, by decide⟩
            obtain rfl : e1 = 0 := by omega
            by_cases h2 : e2 ≠ 0
            · have HRE := Aside0.mk (show R = .error 10 by have := HR6.out; rw [if_pos (.inr h2)] at this; exact this.symm)
              have q2 : (e2 == 0) = false := beq_eq_false_iff_ne.mpr h2
              have q3 : (e2 != 0) = true := bne_iff_ne.mpr h2
              clear h2
              go_wp2
              go_ret3
              exact .inl ⟨10, HRE.out, rfl, HX7.out.2.2.2.2.2.2, by decide⟩
            obtain rfl : e2 = 0 := by omega
            have HRO := Aside0.mk (show R = .ok (l.take a, l.drop a, q) by have := HR6.out; rw [if_neg (fun h => h.elim (fun h => h rfl) (fun h => h rfl))] at this; exact this.symm)
            clear h1 h2
            go_wp2
            go_ret3
            exact .inr ⟨l.take a, l.drop a, q, _, _, c5, c5 - a, HRO.out, by rw [HLT.out.1, HLT.out.2]; rfl, HRA7.out, HRB7.out, by rw [HLT.out.1]; exact cap1, by rw [HLT.out.2]; omega, HE.out.1, HE.out.2, HX7.out, HK7.out, HQ.out⟩

end Go.Proofs.Ytmanmjjjepdhlaa.XPrefix
