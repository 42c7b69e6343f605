/- the document's writer It has no conditions. -/
import Derived.Test.YtmanmjjjepdhlaaYIB
import Derived.BigRegion
import Derived.RegionTactic
import Derived.ChangeAlike
import Derived.Deep.RegionWith
import Derived.Deep.RegionLaw
import Derived.Laws.Tables
import Derived.Deep.QuietTactic
import Derived.BigQuiet
import Derived.Deep.RegionHeld3
import Derived.Deep.AppendLies
import Derived.Deep.DrawnRows
import Derived.Laws.CopyOwn
import Derived.Deep.MidRow
import Derived.Laws.ResultCell
import Derived.ChangeKeysEq
import Derived.Laws.BitsAllLaws
namespace Go.Proofs.Ytmanmjjjepdhlaa.XPrefix
set_option linter.unusedVariables false
set_option linter.unusedSimpArgs false
open Go.RowKit Go.Proofs.YtmanmjjjepdhlaaW.PrintWords Go.Proofs.YtmanmjjjepdhlaaW.PrintLast Go.Proofs.YtmanmjjjepdhlaaW.PrintMore
attribute [local go_sem] max2_int min2_int max_two min_two max_three min_three max_four min_four
open XInflateAny XTok
def cl (N : Int) : Nat := (if 32 < (if N < 0 then 0 else N) then 32 else (if N < 0 then 0 else N) : Int).toNat
theorem cl_le (N : Int) : cl N ≤ 32 := by unfold cl; split <;> split <;> omega
def IsV (w0 W : World) (g : Nat) (v : Value) (B : List Int) : Prop :=
 W.heap[g]? = some (.cells #[v] 112 (0, 0)) ∧ w0.heap.size ≤ g ∧ W.ownsRow w0.heap.size 5 1 v B.length (encs (Value.int .u8) B)
theorem IsV.ne {w0 W : World} {g : Nat} {v : Value} {B : List Int} (h : IsV w0 W g v B) : v.ownBlock ≠ some g := own_ne h.1 h.2.2 (by decide)
theorem IsV.drewN {w0 W : World} {g : Nat} {v : Value} {B : List Int} (h : IsV w0 W g v B) (m : Nat) : IsV w0 (W.drewN m) g v B := h
theorem IsV.below {w0 W W1 : World} {g : Nat} {v : Value} {B : List Int} (h : IsV w0 W g v B) (hb : Below W.heap.size W W1) : IsV w0 W1 g v B :=
 ⟨blk_below h.1 hb, h.2.1, own_move h.2.2 (fun k hk => hb.block k (h.2.2.lt k hk).2)⟩
/-- What a call of its leaves. -/
def VPost (w0 w : World) (g : Nat) (v : Value) (B : List Int) (w' : World) : Prop :=
 ∃ v', IsV w0 w' g v' B ∧ Below w0.heap.size w0 w' ∧ KeepBut w w' g v.ownBlock ∧ (v'.ownBlock = v.ownBlock ∨ ∃ b, v'.ownBlock = some b ∧ w.heap.size ≤ b)
theorem own_alt2 {w wr : World} {v v' v2 : Value} (hs : w.heap.size ≤ wr.heap.size) (hv : v'.ownBlock = v.ownBlock ∨ ∃ b, v'.ownBlock = some b ∧ w.heap.size ≤ b) {H : Nat} (hH : wr.heap.size ≤ H) (hat : v2.ownBlock = v'.ownBlock ∨ v2.ownBlock = some H) : v2.ownBlock = v.ownBlock ∨ ∃ b, v2.ownBlock = some b ∧ w.heap.size ≤ b := by
 rcases hat with hat | hat
 ·rw [hat]; exact hv
 ·exact .inr ⟨H, hat, by omega⟩
/-- Behind an append onto it, and the store. -/
theorem IsV.stored {w0 W1 : World} {g : Nat} {v v1 : Value} {m : Nat} {xs : List Value} {B1 : List Int} (hb : W1.heap[g]? = some (.cells #[v] 112 (0, 0))) (hg : w0.heap.size ≤ g) (ho : W1.ownsRow w0.heap.size 5 1 v1 m xs) (hm : B1.length = m) (hx : encs (Value.int .u8) B1 = xs) : IsV w0 (W1.setCell ⟨g, 0, none⟩ v1) g v1 B1 := by
 subst hm hx
 exact ⟨by simpa using blk_set hb 0 v1, hg, own_set (own_ne hb ho (by decide)) ho _ _⟩
set_option maxHeartbeats 1600000 in
set_option maxRecDepth 100000 in
/-- montageref01.Writer.Put. -/
theorem rput_walk (g : Nat) (v : Value) (B : List Int) (x : Nat) (N : Int) (w0 w : World) (hI : IsV w0 w g v B) (hBe : Below w0.heap.size w0 w) (hx : x < 4294967296) (hBl : B.length ≤ 1000000) :
  Calls Try.prog 64 #[.pointer (some ⟨g, 0, none⟩), .int .u32 (x : Int), .int .i64 N] w fun e w' => e = .returned (.tuple #[]) ∧ VPost w0 w g v (B ++ bl x (cl N)) w' := by
 obtain ⟨i0, hi0, hz0, hz1, hz2⟩ := info_parts info5
 have HI := Aside0.mk hI
 have HB := Aside0.mk hBe
 clear hI hBe
 go_enter Try.func64, Try.ntmps64
 go_wp2_with fail
 go_loopw [1, 6] (fun v1 v6 wr => ∃ (k : Nat) (v' : Value), k ≤ cl N ∧ v1 = .int .u32 ((x / 2 ^ k : Nat) : Int) ∧ v6 = .int .i64 (k : Int) ∧ Aside0 (IsV w0 wr g v' (B ++ bl x k)) ∧ Aside0 (Below w0.heap.size w0 wr) ∧ Aside0 (KeepBut w wr g v.ownBlock) ∧ Aside0 (v'.ownBlock = v.ownBlock ∨ ∃ b, v'.ownBlock = some b ∧ w.heap.size ≤ b)) (fun _ v6 _ => cl N - (intOf v6).toNat)
 case atStart => exact ⟨0, v, by omega, by simp, rfl, ⟨by simpa [bl] using HI.out⟩, HB, ⟨KeepBut.refl w g _⟩, ⟨.inl rfl⟩⟩
 case round =>
  clear HI HB
  obtain ⟨k, v', hk, rfl, rfl, HI, HB, HK, HV⟩ := hrel
  have hcl := cl_le N
  have hclN : ((cl N : Nat) : Int) = (if 32 < (if N < 0 then 0 else N) then 32 else (if N < 0 then 0 else N)) := by unfold cl; split <;> split <;> omega
  have hT : x / 2 ^ k ≤ x := Nat.div_le_self _ _
  obtain ⟨T, hTT⟩ : ∃ T, x / 2 ^ k = T := ⟨_, rfl⟩
  have hT2 : x / 2 ^ (k + 1) = T / 2 := by rw [← hTT, Nat.pow_succ, Nat.div_div_eq_div_mul]
  have hbs : B ++ bl x (k + 1) = (B ++ bl x k) ++ [((T % 2 : Nat) : Int)] := by rw [bl_succ, hTT, List.append_assoc]
  have hl2 : (B ++ bl x k).length ≤ 1000040 := by rw [List.length_append, bl_len]; omega
  obtain ⟨L, hL⟩ : ∃ L, B ++ bl x k = L := ⟨_, rfl⟩
  rw [hTT] at hT ⊢
  rw [hL] at hbs hl2 HI
  have LE := Aside0.mk hL
  have HL := Aside0.mk hl2
  clear hL hl2
  have TT := Aside0.mk hT2
  have BS := Aside0.mk hbs
  clear hTT hT2 hbs
  by_cases hlt : k < cl N
  ·have e1 : decide ((k : Int) < N) = true := decide_eq_true (by split at hclN <;> split at hclN <;> omega)
   have e2 : decide ((k : Int) < 32) = true := decide_eq_true (by omega)
   clear hclN
   have b1 : 0 ≤ (T : Int) := by omega
   have b2 : (T : Int) ≤ 4294967295 := by omega
   have hc0 : wr.cell? ⟨g, 0, none⟩ = some v' := (blk_cell HI.out.1 0).trans rfl
   have hf0 := blk_frozen HI.out.1 0
   have hlt0 := blk_lt HI.out.1
   have hne := Aside0.mk HI.out.ne
   go_wp2_with (first
    | (at_builtin; refine wpList_append_vec (by rfl) (.tmp 20) (.tmp 24) 52 (by rfl) w0.heap.size 5 i0 _ 1 1 Try.underlying52 hi0 hz0 hz1 hz2 rfl (by omega) v' L.length (encs (Value.int .u8) L) (by rfl) (HI.out.2.2.alloc _) (some ⟨wr.heap.size, 0, none⟩) 1 1 [.int .u8 ((T % 2 : Nat) : Int)] (by rfl) (by rfl) (fun _ => ⟨_, rfl, World.news_of_block (cs := #[.int .u8 ((T % 2 : Nat) : Int)]) (t := 5) (fr := (0, 0)) (heap_alloc_new wr _)⟩) (by simp [Value.oneCell']) (by have := HL.out; simp only [maxLen]; omega) (by have := HL.out; omega) (by simp; have := below_size HB.out; omega) (wr.heap.size + 1) (by simp) ?_; intro A2 c2 w2 hown2 hgrow2 hat2; have O2 := Aside0.mk hown2; have BK2 := Aside0.mk (show w2.heap[g]? = some (.cells #[v'] 112 (0, 0)) from (hgrow2.block g (by simp; omega) (fun e => hne.out e.symm)).trans (blk_alloc HI.out.1 _)); have HB2 := Aside0.mk (show Below w0.heap.size w0 w2 from Below.grown (below_alloc HB.out _) hgrow2 (by simp; have := below_size HB.out; omega) (own_base HI.out.2.2)); have HK2 := Aside0.mk (show KeepBut w w2 g v.ownBlock from KeepBut.trans (keep_alloc2 HK.out _) (KeepBut.of_grown hgrow2 g) HV.out); have HV2 := Aside0.mk (own_alt2 HK.out.1 HV.out (Nat.le_succ _) hat2); clear hown2 hgrow2 hat2; have kc0 := (blk_cell BK2.out 0).trans rfl; have kf0 := blk_frozen BK2.out 0))
   go_roundw
   case rel => exact ⟨k + 1, _, by omega, by rw [TT.out]; rfl, by go_num, ⟨IsV.stored BK2.out HI.out.2.1 O2.out (by rw [BS.out]; simp) (by rw [BS.out, encs_append]; rfl)⟩, ⟨below_set HB2.out HI.out.2.1⟩, ⟨HK2.out.set_ _ _⟩, HV2⟩
   case measure => simp [intOf]; omega
  ·have hk2 : k = cl N := by omega
   have e3 : decide ((k : Int) < N) = false ∨ (decide ((k : Int) < N) = true ∧ decide ((k : Int) < 32) = false) := by
    by_cases h : (k : Int) < N
    ·exact .inr ⟨decide_eq_true h, decide_eq_false (by split at hclN <;> split at hclN <;> omega)⟩
    ·exact .inl (decide_eq_false h)
   have HKK := Aside0.mk hk2
   clear hclN hk2
   rcases e3 with e1 | ⟨e1, e2⟩
   all_goals
    go_wp2
    first | go_end0 | ((try simp only [Exit.inBlock, Exit.then]); refine bodyPost_ret (results_none rfl _ _ _) rfl ?_)
    exact ⟨rfl, v', by rw [← HKK.out, LE.out]; exact HI.out, HB.out, HK.out, HV.out⟩
theorem C_own {W : World} {base : Nat} {A : Option Addr} {n c : Nat} {xs : List Int} (h : Kd.R (Kd.int .u8) 5 W base (fun _ => True) (.slice A n c) xs) : Kd.C (Kd.int .u8) W A n xs :=
 Kd.C_foot_own (g := W.heap.size) (Kd.R_mono (Kd.R_bound h) (ok' := fun k => k ≠ W.heap.size) (fun k hk => by have := hk.2.2.1; omega)) (fun k hk => hk) W (KeepBut.refl W _ none)
theorem R_form {W : World} {base : Nat} {v : Value} {xs : List Int} (h : Kd.R (Kd.int .u8) 5 W base (fun _ => True) v xs) : ∃ A c, v = .slice A xs.length c ∧ Kd.C (Kd.int .u8) W A xs.length xs := by
 obtain ⟨inner, ho⟩ := Kd.R_own h
 obtain ⟨A, c, rfl⟩ := own_form ho
 exact ⟨A, c, rfl, C_own h⟩
theorem cells_of_C {W : World} {A : Option Addr} {n : Nat} {xs : List Int} (h : Kd.C (Kd.int .u8) W A n xs) : 0 < n → ∃ ad, A = some ad ∧ ∀ j u, (encs (Value.int .u8) xs)[j]? = some u → W.cell? (ad.add j) = some u := by
 intro hn
 have h2 := Kd.reads_of_C (enc := Value.int .u8) (d := (0 : Int)) (h1 := fun _ => rfl) h
 obtain ⟨ad, e, hc⟩ := h2.2.2 hn
 refine ⟨ad, e, fun j u hu => ?_⟩
 have hl : xs.length = n := h2.1
 have hj : j < xs.length := by
  rcases Nat.lt_or_ge j xs.length with h | h
  ·exact h
  ·rw [List.getElem?_eq_none (by simpa [encs] using h)] at hu; cases hu
 rw [hc j (by omega), ← hu]
 simp [encs, List.getD_eq_getElem?_getD, List.getElem?_eq_getElem hj]
end Go.Proofs.Ytmanmjjjepdhlaa.XPrefix
