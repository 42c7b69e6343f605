/- Several texts of this seat's proofs, joined: YInfR1, YInfR2, YInfR3. It has no conditions. -/
import Derived.Test.YtmanmjjjepdhlaaYIB
import Derived.BigRegion
import Derived.RegionTactic
import Derived.ChangeAlike
import Derived.Deep.RegionWith
import Derived.Deep.RegionLaw
import Derived.Laws.Tables
import Derived.Deep.QuietTactic
import Derived.BigQuiet
import Derived.Deep.RegionHeld3
import Derived.Deep.AppendLies
import Derived.Deep.DrawnRows
import Derived.Laws.CopyOwn
import Derived.Deep.MidRow
import Derived.Laws.ResultCell
import Derived.ChangeKeysEq
import Derived.Laws.BitsAllLaws
namespace Go.Proofs.Ytmanmjjjepdhlaa.XPrefix
set_option linter.unusedVariables false
set_option linter.unusedSimpArgs false
open Go.RowKit Go.Proofs.YtmanmjjjepdhlaaW.PrintWords Go.Proofs.YtmanmjjjepdhlaaW.PrintLast Go.Proofs.YtmanmjjjepdhlaaW.PrintMore
attribute [local go_sem] max2_int min2_int max_two min_two max_three min_three max_four min_four


open XInflateAny XTok
/-- The document's reader of streams. -/
def IsR (w0 W : World) (g : Nat) (A0 : Option Addr) (c0 Z N p : Nat) (vo : Value) (out : List Int) (most : Int) (vk : Value) (ks : List Int) : Prop :=
  W.heap[g]? = some (.cells #[.slice A0 N c0, .int .i64 (p : Int), vo, .int .i64 most, vk] 102 (0, 0)) ∧ w0.heap.size ≤ g ∧ N ≤ c0 ∧ Kd.C (Kd.int .u8) w0 A0 N (bl Z N) ∧ W.ownsRow w0.heap.size 5 1 vo out.length (encs (Value.int .u8) out) ∧ W.ownsRow w0.heap.size 3 1 vk ks.length (encs (Value.int .i64) ks) ∧ Below w0.heap.size w0 W
theorem IsR.below {w0 W W1 : World} {g : Nat} {A0 : Option Addr} {c0 Z N p : Nat} {vo vk : Value} {out ks : List Int} {most : Int} (h : IsR w0 W g A0 c0 Z N p vo out most vk ks) (hb : Below W.heap.size W W1) : IsR w0 W1 g A0 c0 Z N p vo out most vk ks := by
  obtain ⟨h1, h2, h3, h4, h5, h6, h7⟩ := h
  exact ⟨blk_below h1 hb, h2, h3, h4, own_move h5 (fun k hk => hb.block k (own_lt h5 k hk)), own_move h6 (fun k hk => hb.block k (own_lt h6 k hk)), below_step h7 hb⟩
/-- The place is another one. -/
theorem IsR.at_ {w0 W : World} {g : Nat} {A0 : Option Addr} {c0 Z N p : Nat} {vo vk : Value} {out ks : List Int} {most : Int} (h : IsR w0 W g A0 c0 Z N p vo out most vk ks) (q : Nat) : IsR w0 (W.setCell ⟨g, 1, none⟩ (.int .i64 (q : Int))) g A0 c0 Z N q vo out most vk ks := by
  obtain ⟨h1, h2, h3, h4, h5, h6, h7⟩ := h
  have m : ∀ {b : Nat} {e n : Nat} {u : Value} {ys : List Value}, W.ownsRow b e 1 u n ys → e ≠ 102 → (W.setCell ⟨g, 1, none⟩ (.int .i64 (q : Int))).ownsRow b e 1 u n ys := fun ho he =>
    own_move ho (fun k hk => Below.heap_setCell W ⟨g, 1, none⟩ _ k (fun e => own_ne h1 ho he (hk.trans (by rw [e]))))
  exact ⟨blk_put h1 1 _ rfl, h2, h3, h4, m h5 (by decide), m h6 (by decide), below_set h7 h2⟩
theorem bl_len' (Z N : Nat) : (bl Z N).length = N := bl_len Z N
set_option maxHeartbeats 1600000 in
set_option maxRecDepth 100000 in
theorem rbits_bad (g : Nat) (A0 : Option Addr) (c0 Z N p n : Nat) (vo vk : Value) (out ks : List Int) (most : Int) (w0 w : World) (hR : IsR w0 w g A0 c0 Z N p vo out most vk ks) (hN : N ≤ 800000) (hp : p ≤ N) (hn : N < p + n) :
    Calls Try.prog 92 #[.pointer (some ⟨g, 0, none⟩), .int .i64 n] w fun e w' => e = .returned (.tuple #[.int .i64 0, .int .i64 3]) ∧ Below w.heap.size w w' := by
  have hc0 : w.cell? ⟨g, 0, none⟩ = some (.slice A0 N c0) := (blk_cell hR.1 0).trans rfl
  have hc1 : w.cell? ⟨g, 1, none⟩ = some (.int .i64 (p : Int)) := (blk_cell hR.1 1).trans rfl
  have d0 : decide ((N : Int) - (p : Int) < (n : Int)) = true := decide_eq_true (by omega)
  clear hR
  go_enter Try.func92, Try.ntmps92
  go_wp2
  go_region
  go_wp2
  go_ret2
  exact ⟨rfl, below_drew1 (Below.refl _ _)⟩
set_option maxHeartbeats 1600000 in
set_option maxRecDepth 100000 in
theorem rbits_ok (g : Nat) (A0 : Option Addr) (c0 Z N p n : Nat) (vo vk : Value) (out ks : List Int) (most : Int) (w0 w : World) (hR : IsR w0 w g A0 c0 Z N p vo out most vk ks) (hN : N ≤ 800000) (hn : p + n ≤ N) (hn30 : n ≤ 30) :
    Calls Try.prog 92 #[.pointer (some ⟨g, 0, none⟩), .int .i64 n] w fun e w' => e = .returned (.tuple #[.int .i64 ((Z / 2 ^ p % 2 ^ n : Nat) : Int), .int .i64 0]) ∧ IsR w0 w' g A0 c0 Z N (p + n) vo out most vk ks ∧ KeepBut w w' g none := by
  have hc0 : w.cell? ⟨g, 0, none⟩ = some (.slice A0 N c0) := (blk_cell hR.1 0).trans rfl
  have hc1 : w.cell? ⟨g, 1, none⟩ = some (.int .i64 (p : Int)) := (blk_cell hR.1 1).trans rfl
  have d0 : decide ((N : Int) - (p : Int) < (n : Int)) = false := decide_eq_false (by omega)
  have HR := Aside0.mk hR
  clear hR
  go_enter Try.func92, Try.ntmps92
  go_wp2
  go_region
  have HR1 := Aside0.mk (HR.out.below (show Below w.heap.size w w.drew from below_drew1 (Below.refl _ _)))
  have HK1 := Aside0.mk (KeepBut.of_below (show Below w.heap.size w w.drew from below_drew1 (Below.refl _ _)) g none)
  clear hc0 hc1 d0 HR
  go_wp2
  go_loopw [6, 7] (fun v6 v7 wr => ∃ (j : Nat) (kI v : Int), v7 = .int .i64 kI ∧ v6 = .int .i64 v ∧ j ≤ n ∧ Aside0 (kI = (j : Int) - 1) ∧ Aside0 (v = ((Z / 2 ^ (p + j) % 2 ^ (n - j) : Nat) : Int)) ∧ Aside0 (IsR w0 wr g A0 c0 Z N p vo out most vk ks) ∧ Aside0 (KeepBut w wr g none)) (fun _ v7 _ => (intOf v7 + 1).toNat)
  case atStart => exact ⟨n, _, _, rfl, rfl, by omega, ⟨rfl⟩, ⟨by rw [Nat.sub_self, Nat.pow_zero, Nat.mod_one]; rfl⟩, HR1, HK1⟩
  case round =>
    clear HR1 HK1
    obtain ⟨j, kI, v, rfl, rfl, hj, HKI, HV, HR1, HK1⟩ := hrel
    have hc0 : wr.cell? ⟨g, 0, none⟩ = some (.slice A0 N c0) := (blk_cell HR1.out.1 0).trans rfl
    have hc1 : wr.cell? ⟨g, 1, none⟩ = some (.int .i64 (p : Int)) := (blk_cell HR1.out.1 1).trans rfl
    have hf1 := blk_frozen HR1.out.1 1
    cases j with
    | zero =>
      obtain rfl : kI = -1 := by have := HKI.out; omega
      have d1 : decide (0 ≤ (-1 : Int)) = false := by decide
      have HV2 := Aside0.mk (show v = ((Z / 2 ^ p % 2 ^ n : Nat) : Int) from HV.out)
      have HR2 := Aside0.mk (HR1.out.at_ (p + n))
      have HK2 := Aside0.mk (HK1.out.trans ((KeepBut.refl wr g none).set_ 1 (.int .i64 ((p + n : Nat) : Int))) (.inl rfl))
      have epn : (p : Int) + (n : Int) = ((p + n : Nat) : Int) := by omega
      obtain ⟨q, hq⟩ : ∃ q : Nat, p + n = q := ⟨_, rfl⟩
      rw [hq] at HR2 HK2 epn
      have HQ := Aside0.mk hq
      clear HKI HV hq
      go_wp2
      go_ret2
      exact ⟨by rw [HV2.out]; rfl, by rw [HQ.out]; exact HR2.out, HK2.out⟩
    | succ i =>
      obtain rfl : kI = (i : Int) := by have := HKI.out; omega
      have d1 : decide (0 ≤ (i : Int)) = true := decide_eq_true (by omega)
      have hC := Kd.C_below HR1.out.2.2.2.1 HR1.out.2.2.2.2.2.2
      obtain ⟨ad, ea, hx⟩ := Kd.at_int hC ((p + i : Nat) : Int) (by omega) (by omega)
      cases ea
      rw [bl_get Z N (p + i) (by omega), Int.toNat_natCast] at hx
      obtain ⟨b, hb⟩ : ∃ b : Nat, Z / 2 ^ (p + i) % 2 = b := ⟨_, rfl⟩
      rw [hb] at hx
      have hb2 : b < 2 := by omega
      have hvb : 0 ≤ v ∧ v < 1073741824 := by
        rw [HV.out]
        have h1 : Z / 2 ^ (p + (i + 1)) % 2 ^ (n - (i + 1)) < 2 ^ (n - (i + 1)) := Nat.mod_lt _ (Nat.two_pow_pos _)
        have h2 : 2 ^ (n - (i + 1)) ≤ 2 ^ 30 := Nat.pow_le_pow_right (by decide) (by omega)
        omega
      have HV2 := Aside0.mk (show 2 * v + (b : Int) = ((Z / 2 ^ (p + i) % 2 ^ (n - i) : Nat) : Int) by
        have h1 := mod_step (Z / 2 ^ (p + i)) (n - (i + 1))
        rw [Nat.div_div_eq_div_mul, ← Nat.pow_succ, hb, show n - (i + 1) + 1 = n - i from by omega] at h1
        rw [HV.out, ← h1, show p + (i + 1) = (p + i).succ from rfl]
        omega)
      have pi : (p : Int) + (i : Int) = ((p + i : Nat) : Int) := by omega
      obtain ⟨m, hm⟩ : ∃ m : Nat, p + i = m := ⟨_, rfl⟩
      rw [hm] at hx pi
      have wpi : IntKind.i64.wrap ((p : Int) + (i : Int)) = (m : Int) := by rw [pi, i64_w]; unfold wrap64; omega
      have m0 : 0 ≤ (m : Int) := by omega
      have m1 : (m : Int) < (N : Int) := by omega
      have HM := Aside0.mk hm
      clear hm hC HV HKI hb
      go_wp2
      go_quiet (fail)
      go_wp2_with fail
      go_roundw
      case rel => exact ⟨i, _, _, rfl, rfl, by omega, ⟨rfl⟩, HV2, ⟨HR1.out.below (pw_below_drewN (Below.refl _ _) _)⟩, ⟨HK1.out.trans (KeepBut.of_below (pw_below_drewN (Below.refl _ _) _) g none) (.inl rfl)⟩⟩
      case measure => first | (simp [intOf]; done) | (simp [intOf]; omega)


set_option maxHeartbeats 1600000 in
set_option maxRecDepth 100000 in
theorem symbol_calls (g : Nat) (A0 : Option Addr) (c0 Z N p : Nat) (Al : Option Addr) (cl : Nat) (l : List Int) (vo vk : Value) (out ks : List Int) (most : Int) (w0 w : World) (hR : IsR w0 w g A0 c0 Z N p vo out most vk ks) (hN : N ≤ 800000) (hp : p ≤ N) (hK : eS l = 0) (hC : Kd.C (Kd.int .i64) w Al l.length l) (hcl : l.length ≤ cl) :
    Calls Try.prog 124 #[.pointer (some ⟨g, 0, none⟩), .slice Al l.length cl] w fun e w' => e = .returned (.tuple #[.int .i64 (readA l (kS l) Z N p).1, .int .i64 (readA l (kS l) Z N p).2.1]) ∧ IsR w0 w' g A0 c0 Z N (readA l (kS l) Z N p).2.2.1 vo out most vk ks ∧ KeepBut w w' g none := by
  have hKR : KRes l (kS l) 0 := hK ▸ kS_spec l
  obtain ⟨q, hq⟩ := (read_doc l (kS l) hKR Z N p (by omega) hp).rounds
  obtain ⟨R, hRR⟩ : ∃ R, readA l (kS l) Z N p = R := ⟨_, rfl⟩
  rw [hRR] at hq ⊢
  obtain ⟨s, er, p2, bad⟩ := R
  have hrd : ∀ W, Below w.heap.size w W → Calls Try.prog 144 #[.slice Al l.length cl, .slice A0 N c0, .int .i64 (p : Int)] W fun e w' => e = .returned (.tuple #[.int .i64 s, .int .i64 (p2 : Int), .int .i64 er]) ∧ Below W.heap.size W w' := fun W hb => by
    have hR' := hR.below hb
    have hB2 : Kd.C (Kd.int .u8) W A0 (bl Z N).length (bl Z N) := by rw [bl_len]; exact Kd.C_below hR'.2.2.2.1 hR'.2.2.2.2.2.2
    have := montageref05_Read.calls q Al cl l A0 c0 (bl Z N) (p : Int) s (p2 : Int) er W (Kd.C_below hC hb) hcl hB2 (by rw [bl_len]; exact hR.2.2.1) hq
    rwa [bl_len] at this
  have hc0 : w.cell? ⟨g, 0, none⟩ = some (.slice A0 N c0) := (blk_cell hR.1 0).trans rfl
  have hc1 : w.cell? ⟨g, 1, none⟩ = some (.int .i64 (p : Int)) := (blk_cell hR.1 1).trans rfl
  have HR := Aside0.mk hR
  have HRD := Aside0.mk hrd
  clear hR hrd hq hRR hKR hC
  go_enter Try.func124, Try.ntmps124
  go_wp2_with fail
  go_region_law
    ((go_simp; go_at_call 144; refine (HRD.out _ (by first | exact Below.refl _ _ | exact below_drew1 (Below.refl _ _))).mono ?_; rintro e w1 ⟨rfl, hb⟩; have hb1 := below_step (by first | exact Below.refl w.heap.size w | exact below_drew1 (Below.refl w.heap.size w)) hb; have HR1 := Aside0.mk (HR.out.below hb1); have HK1 := Aside0.mk (KeepBut.of_below hb1 g none); have hc11 : w1.cell? ⟨g, 1, none⟩ = some (.int .i64 (p : Int)) := (blk_cell HR1.out.1 1).trans rfl; have hf1 := blk_frozen HR1.out.1 1; have HR2 := Aside0.mk (HR1.out.at_ p2); have HK2 := Aside0.mk (HK1.out.trans ((KeepBut.refl w1 g none).set_ 1 (.int .i64 (p2 : Int))) (.inl rfl)); clear hb hb1))
  all_goals
    clear hc0
    go_wp2
    go_ret2
    exact ⟨rfl, HR2.out, HK2.out⟩
theorem IsR.base_le {w0 W : World} {g : Nat} {A0 : Option Addr} {c0 Z N p : Nat} {vo vk : Value} {out ks : List Int} {most : Int} (h : IsR w0 W g A0 c0 Z N p vo out most vk ks) : w0.heap.size ≤ W.heap.size := below_size h.2.2.2.2.2.2



open XInflateAny XTok
/-- All but the document's reader and what is said stay. -/
def KeepR (w w1 : World) (g : Nat) (vo : Value) : Prop := w.heap.size ≤ w1.heap.size ∧ ∀ k, k < w.heap.size → k ≠ g → some k ≠ vo.ownBlock → w1.heap[k]? = w.heap[k]?
theorem KeepR.refl (w : World) (g : Nat) (vo : Value) : KeepR w w g vo := ⟨Nat.le_refl _, fun _ _ _ _ => rfl⟩
theorem KeepR.trans {w w1 w2 : World} {g : Nat} {vo v1 : Value} (h : KeepR w w1 g vo) (h1 : KeepR w1 w2 g v1) (hn : NewRow w vo v1) : KeepR w w2 g vo :=
  ⟨Nat.le_trans h.1 h1.1, fun k hk a c => (h1.2 k (Nat.lt_of_lt_of_le hk h.1) a (fun e => by
    rcases hn with hn | ⟨b, hn, hb⟩
    · exact c (e.trans hn)
    · rw [hn] at e; injection e with e; omega)).trans (h.2 k hk a c)⟩
theorem KeepR.of_but {w w1 : World} {g : Nat} {vo : Value} (h : KeepBut w w1 g none) : KeepR w w1 g vo := ⟨h.1, fun k hk a _ => h.2 k hk a (by simp)⟩
theorem KeepR.of_below {w w1 : World} {g : Nat} {vo : Value} (h : Below w.heap.size w w1) : KeepR w w1 g vo := ⟨below_size h, fun k hk _ _ => h.block k hk⟩
/-- A row of numbers that is read, of the call's own or the world's, stays. -/
theorem C_keepR {w0 W W1 : World} {g : Nat} {A0 : Option Addr} {c0 Z N p : Nat} {vo vk : Value} {out ks : List Int} {most : Int} {base : Nat} {ok : Nat → Prop} {v : Value} {l : List Int} (h : Kd.R (Kd.int .i64) 3 W base ok v l) (hR : IsR w0 W g A0 c0 Z N p vo out most vk ks) (hk : KeepR W W1 g vo) : Kd.R (Kd.int .i64) 3 W1 base ok v l := by
  refine Kd.R_mono (Kd.R_step (w1 := W1) (Kd.R_bound h) (fun k ho hlt => ?_)) (fun _ ho => ho.1)
  obtain ⟨_, _, _, q, hq, cells, hc⟩ := ho
  have hq3 : q = 3 := by simpa [Kd.int, Kd.scalar] using hq
  subst hq3
  exact hk.2 k hlt (blk_ne hc hR.1 (by decide)) (own_ne' hR.2.2.2.2.1 hc (by decide))
theorem IsR.push {w0 W W2 w1 : World} {g n : Nat} {A0 : Option Addr} {c0 Z N p : Nat} {v vk v1 : Value} {o o2 ks : List Int} {most : Int} {xs : List Value} (h : IsR w0 W g A0 c0 Z N p v o most vk ks) (hb : Below W.heap.size W W2) (hg : W2.grownBy w1 v.ownBlock) (hat : NewRow W v v1)
    (hown : w1.ownsRow w0.heap.size 5 1 v1 n xs) (hn : o2.length = n) (hx : encs (Value.int .u8) o2 = xs) :
    IsR w0 (w1.setCell ⟨g, 2, none⟩ v1) g A0 c0 Z N p v1 o2 most vk ks ∧ KeepR W (w1.setCell ⟨g, 2, none⟩ v1) g v ∧ NewRow W v v1 := by
  subst hn hx
  obtain ⟨h1, h2, h3, h4, h5, h6, h7⟩ := h.below hb
  have k1 : w1.heap[g]? = some (.cells #[.slice A0 N c0, .int .i64 (p : Int), v, .int .i64 most, vk] 102 (0, 0)) := (hg.block g (blk_lt h1) (own_ne' h5 h1 (by decide))).trans h1
  have k5 : w1.ownsRow w0.heap.size 3 1 vk ks.length (encs (Value.int .i64) ks) := own_move h6 (fun k hk => hg.block k (own_lt h6 k hk) (fun e => by
    obtain ⟨c1, e1⟩ := own_typed h6 k hk
    obtain ⟨c2, e2⟩ := own_typed h5 k e.symm
    rw [e1] at e2
    injection e2 with e2
    injection e2 with _ e2
    exact absurd e2 (by decide)))
  have k6 : Below w0.heap.size w0 w1 := Below.grown h7 hg (below_size h7) (own_base h5)
  have s1 : W2.heap.size ≤ w1.heap.size := (KeepBut.of_grown hg g).1
  have s2 := below_size hb
  have m : ∀ {b : Nat} {e n : Nat} {u : Value} {ys : List Value}, w1.ownsRow b e 1 u n ys → e ≠ 102 → (w1.setCell ⟨g, 2, none⟩ v1).ownsRow b e 1 u n ys := fun ho he =>
    own_move ho (fun k hk => Below.heap_setCell w1 ⟨g, 2, none⟩ _ k (fun e => own_ne k1 ho he (hk.trans (by rw [e]))))
  refine ⟨⟨blk_put k1 2 _ rfl, h2, h3, h4, m hown (by decide), m k5 (by decide), below_set k6 h2⟩, ⟨?_, fun k hk a c => ?_⟩, hat⟩
  · rw [World.size_setCell]; omega
  · exact (Below.heap_setCell w1 ⟨g, 2, none⟩ _ k a).trans ((hg.block k (by omega) c).trans (hb.block k hk))
theorem IsR.pushK {w0 W W2 w1 : World} {g n : Nat} {A0 : Option Addr} {c0 Z N p : Nat} {v vk v1 : Value} {o ks k2 : List Int} {most : Int} {xs : List Value} (h : IsR w0 W g A0 c0 Z N p v o most vk ks) (hb : Below W.heap.size W W2) (hg : W2.grownBy w1 vk.ownBlock)
    (hown : w1.ownsRow w0.heap.size 3 1 v1 n xs) (hn : k2.length = n) (hx : encs (Value.int .i64) k2 = xs) : IsR w0 (w1.setCell ⟨g, 4, none⟩ v1) g A0 c0 Z N p v o most v1 k2 := by
  subst hn hx
  obtain ⟨h1, h2, h3, h4, h5, h6, h7⟩ := h.below hb
  have k1 : w1.heap[g]? = some (.cells #[.slice A0 N c0, .int .i64 (p : Int), v, .int .i64 most, vk] 102 (0, 0)) := (hg.block g (blk_lt h1) (own_ne' h6 h1 (by decide))).trans h1
  have k4 : w1.ownsRow w0.heap.size 5 1 v o.length (encs (Value.int .u8) o) := own_move h5 (fun k hk => hg.block k (own_lt h5 k hk) (fun e => by
    obtain ⟨c1, e1⟩ := own_typed h5 k hk
    obtain ⟨c2, e2⟩ := own_typed h6 k e.symm
    rw [e1] at e2
    injection e2 with e2
    injection e2 with _ e2
    exact absurd e2 (by decide)))
  have k6 : Below w0.heap.size w0 w1 := Below.grown h7 hg (below_size h7) (own_base h6)
  have m : ∀ {b : Nat} {e n : Nat} {u : Value} {ys : List Value}, w1.ownsRow b e 1 u n ys → e ≠ 102 → (w1.setCell ⟨g, 4, none⟩ v1).ownsRow b e 1 u n ys := fun ho he =>
    own_move ho (fun k hk => Below.heap_setCell w1 ⟨g, 4, none⟩ _ k (fun e => own_ne k1 ho he (hk.trans (by rw [e]))))
  exact ⟨blk_put k1 4 _ rfl, h2, h3, h4, m k4 (by decide), m hown (by decide), below_set k6 h2⟩
theorem IsR.move {w0 W W1 : World} {g : Nat} {A0 : Option Addr} {c0 Z N p q : Nat} {vo vk : Value} {out ks : List Int} {most : Int} (h : IsR w0 W g A0 c0 Z N p vo out most vk ks) (hb : W1.heap[g]? = some (.cells #[.slice A0 N c0, .int .i64 (q : Int), vo, .int .i64 most, vk] 102 (0, 0))) (hB : Below w0.heap.size w0 W1) (hk : KeepBut W W1 g none) : IsR w0 W1 g A0 c0 Z N q vo out most vk ks := by
  obtain ⟨h1, h2, h3, h4, h5, h6, h7⟩ := h
  exact ⟨hb, h2, h3, h4, hk.own h5 (own_ne h1 h5 (by decide)) (by cases vo.ownBlock <;> simp), hk.own h6 (own_ne h1 h6 (by decide)) (by cases vk.ownBlock <;> simp), hB⟩
theorem same_l0 (x : Int) (n : Nat) : ∀ (d i : Nat) (l : List Int), n - i = d → i ≤ n → n ≤ 1000 → l.length + (n - i) ≤ 100000 → Ev (fun k => montageref08_same.l0 k l (n : Int) x (i : Int)) (l ++ List.replicate (n - i) x) := by
  intro d
  induction d with
  | zero =>
    intro i l hd hi hn hl
    obtain rfl : i = n := by omega
    refine Ev.step (f := fun _ => some l) (fun k => ?_) (by rw [Nat.sub_self, List.replicate_zero, List.append_nil]; exact Ev.now _)
    simp only [montageref08_same.l0]
    rw [if_neg (by omega)]
  | succ d ih =>
    intro i l hd hi hn hl
    have h := ih (i + 1) (l ++ [x]) (by omega) (by omega) hn (by simp; omega)
    rw [List.append_assoc, show [x] ++ List.replicate (n - (i + 1)) x = List.replicate (n - i) x from by rw [show n - i = (n - (i + 1)) + 1 from by omega, List.replicate_succ]; rfl] at h
    refine Ev.step (fun k => ?_) h
    simp only [montageref08_same.l0]
    rw [if_pos (by omega), if_pos (by omega), w64 (by omega) (by omega)]
    rfl
theorem same_is (l : List Int) (n : Nat) (x : Int) (hn : n ≤ 1000) (hl : l.length ≤ 90000) : Ev (fun k => montageref08_same.f k l (n : Int) x) (l ++ List.replicate n x) := by
  have := same_l0 x n n 0 l (by omega) (by omega) hn (by omega)
  exact this



open XInflateAny XTok
/-- A row of numbers in a block of its own type. -/
def Row3 (W : World) (A : Option Addr) (l : List Int) : Prop := Kd.C (Kd.int .i64) W A l.length l ∧ ∃ k o, A = some ⟨k, o, none⟩ ∧ ∃ cells, W.heap[k]? = some (.cells cells 3 (0, 0))
theorem Row3.keep {W W1 : World} {A : Option Addr} {l : List Int} (h : Row3 W A l) (hm : ∀ k, k < W.heap.size → (∃ cells, W.heap[k]? = some (.cells cells 3 (0, 0))) → W1.heap[k]? = W.heap[k]?) : Row3 W1 A l := by
  obtain ⟨h1, k, o, rfl, cells, hc⟩ := h
  have e := hm k (blk_lt hc) ⟨cells, hc⟩
  refine ⟨⟨h1.1, h1.2.1, fun hn => ?_⟩, k, o, rfl, cells, e.trans hc⟩
  obtain ⟨ad, ea, hr⟩ := h1.2.2 hn
  injection ea with ea
  subst ea
  refine ⟨_, rfl, fun j p hj => ?_⟩
  obtain ⟨c, hs, hk, hcell⟩ := hr j p hj
  refine ⟨c, hs, hk, fun i u hu => ?_⟩
  have := hcell i u hu
  have hbk : ∀ n, ((⟨k, o, none⟩ : Addr).add n).block = k := fun n => by unfold Addr.add; split <;> rfl
  unfold World.cell? at this ⊢
  rw [hbk] at this ⊢
  rw [e]
  exact this
theorem Row3.below {W W1 : World} {A : Option Addr} {l : List Int} (h : Row3 W A l) (hb : Below W.heap.size W W1) : Row3 W1 A l := h.keep (fun k hk _ => hb.block k hk)
theorem Row3.keepR {w0 W W1 : World} {g : Nat} {A0 : Option Addr} {c0 Z N p : Nat} {vo vk : Value} {out ks : List Int} {most : Int} {A : Option Addr} {l : List Int} (h : Row3 W A l) (hR : IsR w0 W g A0 c0 Z N p vo out most vk ks) (hk : KeepR W W1 g vo) : Row3 W1 A l :=
  h.keep (fun k hlt ⟨_, hc⟩ => hk.2 k hlt (blk_ne hc hR.1 (by decide)) (own_ne' hR.2.2.2.2.1 hc (by decide)))
theorem Row3.but {w0 W W1 : World} {g : Nat} {A0 : Option Addr} {c0 Z N p : Nat} {vo vk : Value} {out ks : List Int} {most : Int} {A : Option Addr} {l : List Int} (h : Row3 W A l) (hR : IsR w0 W g A0 c0 Z N p vo out most vk ks) (hk : KeepBut W W1 g none) : Row3 W1 A l := h.keepR hR (KeepR.of_but hk)
def RStep (w0 w : World) (g : Nat) (A0 : Option Addr) (c0 Z N : Nat) (vo : Value) (most : Int) (vk : Value) (ks : List Int) (p : Nat) (out : List Int) (w1 : World) : Prop :=
  ∃ vo', IsR w0 w1 g A0 c0 Z N p vo' out most vk ks ∧ KeepR w w1 g vo ∧ NewRow w vo vo'
theorem ref_lenBits (s : Int) (h0 : 256 < s) (h1 : s < 286) : Ev (fun k => montageref07_LengthBits.f k s) (lenB s : Int) := by
  have := ref_lengthBits (s - 257).toNat (by omega)
  rwa [show 257 + (((s - 257).toNat : Nat) : Int) = s from by omega] at this
theorem lenV_ref (s : Int) (m : Nat) (h0 : 256 < s) (h1 : s < 286) (hm : m < 2 ^ lenB s) : lenV s m = if s < 285 then (if s = 284 ∧ m = 31 then 258 else (saysL s m).1) else 258 := by
  have hm2 : (m : Int) < 2 ^ bitsL (s - 257).toNat := by
    have : (m : Int) < ((2 ^ lenB s : Nat) : Int) := by omega
    simpa [lenB] using this
  unfold lenV
  by_cases c1 : s < 285
  · rw [if_pos c1]
    by_cases c2 : s = 284 ∧ m = 31
    · rw [if_pos c2]
      have e : saysL s (m : Int) = (0, false) := by
        unfold saysL
        rw [if_pos ⟨c2.1, by omega⟩]
      rw [e]; rfl
    · rw [if_neg c2]
      have e : saysL s (m : Int) = (baseL (s - 257).toNat + (m : Int), true) := by
        unfold saysL
        rw [if_neg (by omega), if_pos (by omega), if_pos ⟨by omega, hm2⟩]
      rw [e]; rfl
  · rw [if_neg c1]
    obtain rfl : s = 285 := by omega
    rw [saysL_285]
    by_cases c : (m : Int) = 0
    · rw [if_pos c]; rfl
    · rw [if_neg c]; rfl
set_option maxHeartbeats 4000000 in
set_option maxRecDepth 100000 in
theorem rback_err2 (g : Nat) (A0 : Option Addr) (c0 Z N p : Nat) (s : Int) (Al : Option Addr) (cl : Nat) (l : List Int) (vo vk : Value) (out ks : List Int) (most : Int) (w0 w : World) (hR : IsR w0 w g A0 c0 Z N p vo out most vk ks) (h : 286 ≤ s) :
    Calls Try.prog 125 #[.pointer (some ⟨g, 0, none⟩), .int .i64 s, .slice Al l.length cl] w fun e w' => e = .returned (.int .i64 2) ∧ Below w.heap.size w w' := by
  have d0 : decide (285 < s) = true := decide_eq_true (by omega)
  clear hR h
  go_enter Try.func125, Try.ntmps125
  go_wp2
  go_ret
  exact ⟨rfl, Below.refl _ _⟩
set_option maxHeartbeats 4000000 in
set_option maxRecDepth 100000 in
theorem rback_err3 (g : Nat) (A0 : Option Addr) (c0 Z N p : Nat) (s : Int) (Al : Option Addr) (cl : Nat) (l : List Int) (vo vk : Value) (out ks : List Int) (most : Int) (w0 w : World) (hR : IsR w0 w g A0 c0 Z N p vo out most vk ks) (hN : N ≤ 800000) (hp : p ≤ N) (h0 : 256 < s) (h1 : s < 286) (h : N < p + lenB s) :
    Calls Try.prog 125 #[.pointer (some ⟨g, 0, none⟩), .int .i64 s, .slice Al l.length cl] w fun e w' => e = .returned (.int .i64 3) ∧ Below w.heap.size w w' := by
  have d0 : decide (285 < s) = false := decide_eq_false (by omega)
  obtain ⟨q, hq⟩ := (ref_lenBits s h0 h1).rounds
  have HR := Aside0.mk hR
  have HQ := Aside0.mk hq
  have HB := Aside0.mk (fun W (hb : Below w.heap.size w W) => rbits_bad g A0 c0 Z N p (lenB s) vo vk out ks most w0 W (hR.below hb) hN hp h)
  clear hR hq h
  go_enter Try.func125, Try.ntmps125
  go_wp2_with fail
  refine (montageref07_LengthBits.calls q s _ _ HQ.out).mono ?_
  rintro e w1 ⟨rfl, hb⟩
  have HB1 := Aside0.mk hb
  clear hb
  go_wp2_with fail
  refine (HB.out _ HB1.out).mono ?_
  rintro e w2 ⟨rfl, hb⟩
  have HB2 := Aside0.mk (below_step HB1.out hb)
  clear hb HB
  go_wp2
  go_ret
  exact ⟨rfl, HB2.out⟩

def RBPost (w0 w : World) (g : Nat) (A0 : Option Addr) (c0 Z N : Nat) (vo : Value) (most : Int) (vk : Value) (ks : List Int) (R : Except Int (Nat × List Int)) (e : Ending) (w' : World) : Prop :=
  (∃ er, R = .error er ∧ e = .returned (.int .i64 er) ∧ Below w0.heap.size w0 w' ∧ er ≠ 0) ∨ (∃ q o2, R = .ok (q, o2) ∧ e = .returned (.int .i64 0) ∧ RStep w0 w g A0 c0 Z N vo most vk ks q o2 w')
def backS2 (most n : Int) (out : List Int) (D : Except Int (Int × Nat)) : Except Int (Nat × List Int) := match D with
  | .error e => .error e
  | .ok (far, r) => if (out.length : Int) < far then .error 2 else if most < (out.length : Int) + n then .error 7 else .ok (r, copyS far.toNat n.toNat out)
theorem backS_dist {lb : List Int} {Z N : Nat} {most : Int} {s : Int} {p p1 : Nat} {n : Int} {out : List Int} (h : lenS Z N s p = .ok (n, p1)) : backS lb Z N most s p out = backS2 most n out (distS lb Z N p1) := by
  unfold backS; rw [h]; rfl


end Go.Proofs.Ytmanmjjjepdhlaa.XPrefix
