/- the document: a block It has no conditions. -/
import Derived.Test.YtmanmjjjepdhlaaYInfR5
import Derived.Test.YtmanmjjjepdhlaaYInfR6
import Derived.Test.YtmanmjjjepdhlaaYInfR7
import Derived.Test.YtmanmjjjepdhlaaYInfR8
import Derived.Test.YtmanmjjjepdhlaaYIC
import Derived.BigRegion
import Derived.RegionTactic
import Derived.ChangeAlike
import Derived.Deep.RegionWith
import Derived.Deep.RegionLaw
import Derived.Laws.Tables
import Derived.Deep.QuietTactic
import Derived.BigQuiet
import Derived.Deep.RegionHeld3
import Derived.Deep.AppendLies
import Derived.Deep.DrawnRows
import Derived.Laws.CopyOwn
import Derived.Deep.MidRow
import Derived.Laws.ResultCell
import Derived.ChangeKeysEq
import Derived.Laws.BitsAllLaws
namespace Go.Proofs.Ytmanmjjjepdhlaa.XPrefix
set_option linter.unusedVariables false
set_option linter.unusedSimpArgs false
open Go.RowKit Go.Proofs.YtmanmjjjepdhlaaW.PrintWords Go.Proofs.YtmanmjjjepdhlaaW.PrintLast Go.Proofs.YtmanmjjjepdhlaaW.PrintMore
attribute [local go_sem] max2_int min2_int max_two min_two max_three min_three max_four min_four

open XInflateAny XTok
theorem fixed_is : Ev (fun k => montageref08_fixed.f k) (fixA, fixB) := by
  unfold montageref08_fixed.f
  have l1 : ([] ++ List.replicate 144 (8 : Int)).length = 144 := by simp
  have l2 : (([] ++ List.replicate 144 (8 : Int)) ++ List.replicate 112 9).length = 256 := by rw [List.length_append, l1]; simp
  have l3 : ((([] ++ List.replicate 144 (8 : Int)) ++ List.replicate 112 9) ++ List.replicate 24 7).length = 280 := by rw [List.length_append, l2]; simp
  have h1 := same_is [] 144 8 (by decide) (by decide)
  have h2 := same_is ([] ++ List.replicate 144 (8 : Int)) 112 9 (by decide) (by omega)
  have h3 := same_is (([] ++ List.replicate 144 (8 : Int)) ++ List.replicate 112 9) 24 7 (by decide) (by omega)
  have h4 := same_is ((([] ++ List.replicate 144 (8 : Int)) ++ List.replicate 112 9) ++ List.replicate 24 7) 8 8 (by decide) (by omega)
  have h5 := same_is [] 32 5 (by decide) (by decide)
  exact Ev.bind h1 (Ev.bind h2 (Ev.bind h3 (Ev.bind h4 (Ev.bind h5 (Ev.now _)))))
theorem Row3_of_R {W : World} {base : Nat} {ok : Nat → Prop} {v : Value} {l : List Int} (h : Kd.R (Kd.int .i64) 3 W base ok v l) (hl : 0 < l.length) : ∃ A c, v = .slice A l.length c ∧ l.length ≤ c ∧ Row3 W A l := by
  obtain ⟨A, c, rfl, hc, hC⟩ := Kd.R_reads h
  refine ⟨A, c, rfl, hc, hC, ?_⟩
  obtain ⟨g, c', e, _⟩ := Kd.R_form h hl
  cases e
  obtain ⟨inner, ho⟩ := Kd.R_own h
  obtain ⟨cells, hb⟩ := own_typed ho g rfl
  exact ⟨g, 0, rfl, cells, hb⟩
def RBKPost (w0 : World) (g : Nat) (A0 : Option Addr) (c0 Z N p : Nat) (out : List Int) (most : Int) (ks : List Int) (e : Ending) (w' : World) : Prop :=
  (∃ er b, ((N < p + 3 ∧ er = 3) ∨ (¬ N < p + 3 ∧ bodyS Z N most (Z / 2 ^ (p + 1) % 2 ^ 2) (p + 3) out = .error er)) ∧ e = .returned (.tuple #[.bool b, .int .i64 er]) ∧ Below w0.heap.size w0 w' ∧ er ≠ 0) ∨
  (∃ q o2 vo' vk', ¬ N < p + 3 ∧ bodyS Z N most (Z / 2 ^ (p + 1) % 2 ^ 2) (p + 3) out = .ok (q, o2) ∧ e = .returned (.tuple #[.bool (((Z / 2 ^ p % 2 ^ 1 : Nat) : Int) == 1), .int .i64 0]) ∧ IsR w0 w' g A0 c0 Z N q vo' o2 most vk' (ks ++ [((Z / 2 ^ (p + 1) % 2 ^ 2 : Nat) : Int)]) ∧ q ≤ N ∧ o2.length ≤ 4194304)
set_option maxHeartbeats 4000000 in
set_option maxRecDepth 100000 in
theorem rblock_calls (g : Nat) (A0 : Option Addr) (c0 Z N p : Nat) (vo vk : Value) (out ks : List Int) (most : Int) (w0 w : World) (hR : IsR w0 w g A0 c0 Z N p vo out most vk ks) (hN : N ≤ 800000) (h8 : N % 8 = 0) (hp : p ≤ N) (hm : most ≤ 4194304) (ho : out.length ≤ 4194304) (hk : ks.length ≤ 1000000) :
    Calls Try.prog 60 #[.pointer (some ⟨g, 0, none⟩)] w fun e w' => RBKPost w0 g A0 c0 Z N p out most ks e w' := by
  have HX := Aside0.mk hR
  clear hR
  by_cases h1 : N < p + 3
  · have HH := Aside0.mk h1
    by_cases h2 : N < p + 1
    · have HN1 := Aside0.mk (fun W hX => rbits_bad g A0 c0 Z N p 1 vo vk out ks most w0 W hX hN hp h2)
      clear h1 h2
      go_enter Try.func60, Try.ntmps60
      go_wp2_with fail
      refine (HN1.out _ HX.out).mono ?_
      rintro e w1 ⟨rfl, hb⟩
      have HX1 := Aside0.mk (HX.out.below hb)
      clear hb
      go_wp2
      go_ret2
      exact .inl ⟨3, _, .inl ⟨HH.out, rfl⟩, rfl, HX1.out.2.2.2.2.2.2, by decide⟩
    · have HN1 := Aside0.mk (fun W hX => rbits_ok g A0 c0 Z N p 1 vo vk out ks most w0 W hX hN (by omega) (by omega))
      have HN2 := Aside0.mk (fun W hX => rbits_bad g A0 c0 Z N (p + 1) 2 vo vk out ks most w0 W hX hN (by omega) (by omega))
      obtain ⟨u, hu⟩ : ∃ u, Z / 2 ^ p % 2 ^ 1 = u := ⟨_, rfl⟩
      rw [hu] at HN1
      clear h1 h2 hu
      go_enter Try.func60, Try.ntmps60
      go_wp2_with fail
      refine (HN1.out _ HX.out).mono ?_
      rintro e w1 ⟨rfl, hX1, hk1⟩
      have HX1 := Aside0.mk hX1
      clear hX1 hk1 HN1
      go_wp2_with fail
      refine (HN2.out _ HX1.out).mono ?_
      rintro e w2 ⟨rfl, hb⟩
      have HX2 := Aside0.mk (HX1.out.below hb)
      clear hb
      go_wp2
      go_ret2
      exact .inl ⟨3, _, .inl ⟨HH.out, rfl⟩, rfl, HX2.out.2.2.2.2.2.2, by decide⟩
  have HH := Aside0.mk h1
  have HN1 := Aside0.mk (fun W hX => rbits_ok g A0 c0 Z N p 1 vo vk out ks most w0 W hX hN (by omega) (by omega))
  have HN2 := Aside0.mk (fun W hX => rbits_ok g A0 c0 Z N (p + 1) 2 vo vk out ks most w0 W hX hN (by omega) (by omega))
  unfold RBKPost
  obtain ⟨u, hu⟩ : ∃ u, Z / 2 ^ p % 2 ^ 1 = u := ⟨_, rfl⟩
  obtain ⟨kd, hkd⟩ : ∃ kd, Z / 2 ^ (p + 1) % 2 ^ 2 = kd := ⟨_, rfl⟩
  have hk4 : kd < 4 := by rw [← hkd]; exact Nat.mod_lt _ (by decide)
  rw [hu] at HN1 ⊢
  rw [hkd] at HN2 ⊢
  have hp3 : p + 3 ≤ N := by omega
  clear hu hkd h1
  go_enter Try.func60, Try.ntmps60
  go_wp2_with fail
  refine (HN1.out _ HX.out).mono ?_
  rintro e w1 ⟨rfl, hX1, hk1⟩
  have HX1 := Aside0.mk hX1
  clear hX1 hk1 HN1
  go_wp2_with fail
  refine (HN2.out _ HX1.out).mono ?_
  rintro e w2 ⟨rfl, hX2, hk2⟩
  have HX2 := Aside0.mk hX2
  clear hX2 hk2 HN2 HX1
  have hc4 := blk_cell HX2.out.1 4
  obtain ⟨A', c', rfl⟩ := own_form HX2.out.2.2.2.2.2.1
  have h3 : kd = 0 ∨ kd = 1 ∨ kd = 2 ∨ kd = 3 := by omega
  rcases h3 with e | e | e | e
  · have HKE := Aside0.mk e
    have f3 : ((kd : Int) == 3) = false := by rw [e]; rfl
    have f3b : (kd == 3) = false := by rw [e]; rfl
    have f0 : ((kd : Int) == 0) = true := by rw [e]; rfl
    have f0b : (kd == 0) = true := by rw [e]; rfl
    clear e
    have HX2 := Aside0.mk (show IsR w0 w2 g A0 c0 Z N (p + 1 + 2) vo out most (.slice A' ks.length c') ks from HX2.out)
    go_wp2_with (first | ((with_reducible refine gate_builtin (b := .append) (xs := #[.tmp 33, .tmp 35]) rfl ?_); at_builtin; refine print_append_cells (w0 := w0) w0.heap.size rfl (.tmp 33) (.tmp 35) 22 3 (.int .i64 0) 1 8 rfl Try.underlying22 info3 rfl (by decide) (by omega) (.slice A' ks.length c') ks.length (encs (Value.int .i64) ks) [.int .i64 (kd:Int)] rfl rfl rfl (by simp [Value.oneCell']) HX2.out.2.2.2.2.2.1 HX2.out.2.2.2.2.2.2 (below_size HX2.out.2.2.2.2.2.2) (by omega) ?_; intro v9 w9 ho9 hb9 hg9 hat9; obtain ⟨A9, c9, rfl⟩ := own_form ho9; have BK9 := Aside0.mk (show w9.heap[g]? = some (.cells #[.slice A0 N c0, .int .i64 ((p + 1 + 2 : Nat) : Int), vo, .int .i64 most, .slice A' ks.length c'] 102 (0, 0)) from (hg9.block g (blk_lt HX2.out.1) (own_ne' HX2.out.2.2.2.2.2.1 HX2.out.1 (by decide))).trans HX2.out.1); have HX3 := Aside0.mk (IsR.pushK (k2 := ks ++ [(kd:Int)]) HX2.out (Below.refl _ _) hg9 ho9 (by simp) (by rw [encs_append]; rfl)); have hk9 : w9.cell? ⟨g, 4, none⟩ = some (.slice A' ks.length c') := (blk_cell BK9.out 4).trans rfl; have hz_9 := blk_frozen BK9.out 4; clear ho9 hb9 hg9 hat9 hc4))
    go_wp2_with fail
    refine (rstored_calls g A0 c0 Z N (p + 1 + 2) vo _ out (ks ++ [(kd : Int)]) most w0 _ HX3.out hN h8 (by omega) hm ho).mono ?_
    rintro e w4 h4
    rcases h4 with ⟨er, hRe, rfl, hb, hne⟩ | ⟨q2, o2, hRo, rfl, ⟨v2, hX5, _, _⟩, hq2, hl2⟩
    · have HRE := Aside0.mk hRe
      have HB := Aside0.mk hb
      have H1 := Aside0.mk hne
      clear hRe hb hne
      go_wp2
      go_ret2
      exact .inl ⟨er, _, .inr ⟨HH.out, by rw [HKE.out]; exact HRE.out⟩, rfl, HB.out, H1.out⟩
    · have HRO2 := Aside0.mk hRo
      have HX5 := Aside0.mk hX5
      clear hRo hX5
      go_wp2
      go_ret2
      exact .inr ⟨q2, o2, v2, _, HH.out, by rw [HKE.out]; exact HRO2.out, rfl, HX5.out, hq2, hl2⟩
  · have HKE := Aside0.mk e
    have f3 : ((kd : Int) == 3) = false := by rw [e]; rfl
    have f3b : (kd == 3) = false := by rw [e]; rfl
    have f0 : ((kd : Int) == 0) = false := by rw [e]; rfl
    have f0b : (kd == 0) = false := by rw [e]; rfl
    have f2 : ((kd : Int) == 2) = false := by rw [e]; rfl
    have f2b : (kd == 2) = false := by rw [e]; rfl
    clear e
    have HX2 := Aside0.mk (show IsR w0 w2 g A0 c0 Z N (p + 1 + 2) vo out most (.slice A' ks.length c') ks from HX2.out)
    go_wp2_with (first | ((with_reducible refine gate_builtin (b := .append) (xs := #[.tmp 33, .tmp 35]) rfl ?_); at_builtin; refine print_append_cells (w0 := w0) w0.heap.size rfl (.tmp 33) (.tmp 35) 22 3 (.int .i64 0) 1 8 rfl Try.underlying22 info3 rfl (by decide) (by omega) (.slice A' ks.length c') ks.length (encs (Value.int .i64) ks) [.int .i64 (kd:Int)] rfl rfl rfl (by simp [Value.oneCell']) HX2.out.2.2.2.2.2.1 HX2.out.2.2.2.2.2.2 (below_size HX2.out.2.2.2.2.2.2) (by omega) ?_; intro v9 w9 ho9 hb9 hg9 hat9; obtain ⟨A9, c9, rfl⟩ := own_form ho9; have BK9 := Aside0.mk (show w9.heap[g]? = some (.cells #[.slice A0 N c0, .int .i64 ((p + 1 + 2 : Nat) : Int), vo, .int .i64 most, .slice A' ks.length c'] 102 (0, 0)) from (hg9.block g (blk_lt HX2.out.1) (own_ne' HX2.out.2.2.2.2.2.1 HX2.out.1 (by decide))).trans HX2.out.1); have HX3 := Aside0.mk (IsR.pushK (k2 := ks ++ [(kd:Int)]) HX2.out (Below.refl _ _) hg9 ho9 (by simp) (by rw [encs_append]; rfl)); have hk9 : w9.cell? ⟨g, 4, none⟩ = some (.slice A' ks.length c') := (blk_cell BK9.out 4).trans rfl; have hz_9 := blk_frozen BK9.out 4; clear ho9 hb9 hg9 hat9 hc4))
    obtain ⟨kf, hkf⟩ := fixed_is.rounds
    have HKF := Aside0.mk hkf
    clear hkf
    go_wp2_with fail
    refine (montageref08_fixed.calls kf fixA fixB _ HKF.out).mono ?_
    rintro e w4 ⟨va, vb, rfl, ha4, hb4, hB4⟩
    obtain ⟨Aa, ca, rfl, hca, hCa⟩ := Row3_of_R ha4 (by rw [fixA_len]; decide)
    obtain ⟨Ab, cb, rfl, hcb, hCb⟩ := Row3_of_R hb4 (by rw [fixB_len]; decide)
    have HCa := Aside0.mk hCa
    have HCb := Aside0.mk hCb
    have HX4 := Aside0.mk (HX3.out.below hB4)
    clear ha4 hb4 hB4 hCa hCb HKF HX3
    go_wp2_with fail
    refine (rcoded_calls g A0 c0 Z N (p + 1 + 2) Aa Ab ca cb fixA fixB vo _ out (ks ++ [(kd : Int)]) most w0 _ HX4.out hN (by omega) (kS_of fixA_ok).2 (kS_of fixB_ok).2 HCa.out HCb.out hca hcb hm ho).mono ?_
    rintro e w5 h4
    rcases h4 with ⟨er, hRe, rfl, hb, hne⟩ | ⟨q2, o2, hRo, rfl, ⟨v2, hX5, _, _⟩, hq2, hl2⟩
    · have HRE := Aside0.mk hRe
      have HB := Aside0.mk hb
      have H1 := Aside0.mk hne
      clear hRe hb hne
      go_wp2
      go_ret2
      exact .inl ⟨er, _, .inr ⟨HH.out, by rw [HKE.out]; exact HRE.out⟩, rfl, HB.out, H1.out⟩
    · have HRO2 := Aside0.mk hRo
      have HX5 := Aside0.mk hX5
      clear hRo hX5
      go_wp2
      go_ret2
      exact .inr ⟨q2, o2, v2, _, HH.out, by rw [HKE.out]; exact HRO2.out, rfl, HX5.out, hq2, hl2⟩
  · have HKE := Aside0.mk e
    have f3 : ((kd : Int) == 3) = false := by rw [e]; rfl
    have f3b : (kd == 3) = false := by rw [e]; rfl
    have f0 : ((kd : Int) == 0) = false := by rw [e]; rfl
    have f0b : (kd == 0) = false := by rw [e]; rfl
    have f2 : ((kd : Int) == 2) = true := by rw [e]; rfl
    have f2b : (kd == 2) = true := by rw [e]; rfl
    clear e
    have HX2 := Aside0.mk (show IsR w0 w2 g A0 c0 Z N (p + 1 + 2) vo out most (.slice A' ks.length c') ks from HX2.out)
    go_wp2_with (first | ((with_reducible refine gate_builtin (b := .append) (xs := #[.tmp 33, .tmp 35]) rfl ?_); at_builtin; refine print_append_cells (w0 := w0) w0.heap.size rfl (.tmp 33) (.tmp 35) 22 3 (.int .i64 0) 1 8 rfl Try.underlying22 info3 rfl (by decide) (by omega) (.slice A' ks.length c') ks.length (encs (Value.int .i64) ks) [.int .i64 (kd:Int)] rfl rfl rfl (by simp [Value.oneCell']) HX2.out.2.2.2.2.2.1 HX2.out.2.2.2.2.2.2 (below_size HX2.out.2.2.2.2.2.2) (by omega) ?_; intro v9 w9 ho9 hb9 hg9 hat9; obtain ⟨A9, c9, rfl⟩ := own_form ho9; have BK9 := Aside0.mk (show w9.heap[g]? = some (.cells #[.slice A0 N c0, .int .i64 ((p + 1 + 2 : Nat) : Int), vo, .int .i64 most, .slice A' ks.length c'] 102 (0, 0)) from (hg9.block g (blk_lt HX2.out.1) (own_ne' HX2.out.2.2.2.2.2.1 HX2.out.1 (by decide))).trans HX2.out.1); have HX3 := Aside0.mk (IsR.pushK (k2 := ks ++ [(kd:Int)]) HX2.out (Below.refl _ _) hg9 ho9 (by simp) (by rw [encs_append]; rfl)); have hk9 : w9.cell? ⟨g, 4, none⟩ = some (.slice A' ks.length c') := (blk_cell BK9.out 4).trans rfl; have hz_9 := blk_frozen BK9.out 4; clear ho9 hb9 hg9 hat9 hc4))
    obtain ⟨kf, hkf⟩ := fixed_is.rounds
    have HKF := Aside0.mk hkf
    clear hkf
    go_wp2_with fail
    refine (montageref08_fixed.calls kf fixA fixB _ HKF.out).mono ?_
    rintro e w4 ⟨va, vb, rfl, ha4, hb4, hB4⟩
    obtain ⟨Aa, ca, rfl, hca, hCa⟩ := Row3_of_R ha4 (by rw [fixA_len]; decide)
    obtain ⟨Ab, cb, rfl, hcb, hCb⟩ := Row3_of_R hb4 (by rw [fixB_len]; decide)
    have HCa := Aside0.mk hCa
    have HCb := Aside0.mk hCb
    have HX4 := Aside0.mk (HX3.out.below hB4)
    clear ha4 hb4 hB4 hCa hCb HKF HX3
    clear HCa HCb
    go_wp2_with fail
    refine (rown_calls g A0 c0 Z N (p + 1 + 2) vo _ out (ks ++ [(kd : Int)]) most w0 _ HX4.out hN (by omega)).mono ?_
    rintro e w5 h4
    rcases h4 with ⟨er, hRe, rfl, hb, hne⟩ | ⟨la, lb, q, Aa, Ab, ca, cb, hRo, rfl, hCa, hCb, hca, hcb, ea, eb, hX5, hk5, hq⟩
    · have H1 := Aside0.mk hne
      have HB := Aside0.mk hb
      have HRE := Aside0.mk hRe
      have q0 : (er == 0) = false := beq_eq_false_iff_ne.mpr hne
      have q1 : (er != 0) = true := bne_iff_ne.mpr hne
      clear hne hb hRe
      go_wp2
      go_ret2
      exact .inl ⟨er, _, .inr ⟨HH.out, by rw [HKE.out, bodyS2 (show p + 3 = p + 1 + 2 from rfl), HRE.out]⟩, rfl, HB.out, H1.out⟩
    · have HRO := Aside0.mk hRo
      have HX5 := Aside0.mk hX5
      have HCa := Aside0.mk hCa
      have HCb := Aside0.mk hCb
      have HKa := Aside0.mk ea
      have HKb := Aside0.mk eb
      clear hRo hX5 hk5 hCa hCb ea eb
      go_wp2_with fail
      refine (rcoded_calls g A0 c0 Z N q Aa Ab ca cb la lb vo _ out (ks ++ [(kd : Int)]) most w0 _ HX5.out hN hq HKa.out HKb.out HCa.out HCb.out hca hcb hm ho).mono ?_
      rintro e w5 h4
      rcases h4 with ⟨er, hRe, rfl, hb, hne⟩ | ⟨q2, o2, hRo, rfl, ⟨v2, hX5, _, _⟩, hq2, hl2⟩
      · have HRE := Aside0.mk hRe
        have HB := Aside0.mk hb
        have H1 := Aside0.mk hne
        clear hRe hb hne
        go_wp2
        go_ret2
        exact .inl ⟨er, _, .inr ⟨HH.out, by rw [HKE.out,bodyS2 (show p + 3 = p + 1 + 2 from rfl),HRO.out]; exact HRE.out⟩, rfl, HB.out, H1.out⟩
      · have HRO2 := Aside0.mk hRo
        have HX5 := Aside0.mk hX5
        clear hRo hX5
        go_wp2
        go_ret2
        exact .inr ⟨q2, o2, v2, _, HH.out, by rw [HKE.out,bodyS2 (show p + 3 = p + 1 + 2 from rfl),HRO.out]; exact HRO2.out, rfl, HX5.out, hq2, hl2⟩
  · have HKE := Aside0.mk e
    have f3 : ((kd : Int) == 3) = true := by rw [e]; rfl
    have f3b : (kd == 3) = true := by rw [e]; rfl
    clear e
    have HX2 := Aside0.mk (show IsR w0 w2 g A0 c0 Z N (p + 1 + 2) vo out most (.slice A' ks.length c') ks from HX2.out)
    go_wp2_with (first | ((with_reducible refine gate_builtin (b := .append) (xs := #[.tmp 33, .tmp 35]) rfl ?_); at_builtin; refine print_append_cells (w0 := w0) w0.heap.size rfl (.tmp 33) (.tmp 35) 22 3 (.int .i64 0) 1 8 rfl Try.underlying22 info3 rfl (by decide) (by omega) (.slice A' ks.length c') ks.length (encs (Value.int .i64) ks) [.int .i64 (kd:Int)] rfl rfl rfl (by simp [Value.oneCell']) HX2.out.2.2.2.2.2.1 HX2.out.2.2.2.2.2.2 (below_size HX2.out.2.2.2.2.2.2) (by omega) ?_; intro v9 w9 ho9 hb9 hg9 hat9; obtain ⟨A9, c9, rfl⟩ := own_form ho9; have BK9 := Aside0.mk (show w9.heap[g]? = some (.cells #[.slice A0 N c0, .int .i64 ((p + 1 + 2 : Nat) : Int), vo, .int .i64 most, .slice A' ks.length c'] 102 (0, 0)) from (hg9.block g (blk_lt HX2.out.1) (own_ne' HX2.out.2.2.2.2.2.1 HX2.out.1 (by decide))).trans HX2.out.1); have HX3 := Aside0.mk (IsR.pushK (k2 := ks ++ [(kd:Int)]) HX2.out (Below.refl _ _) hg9 ho9 (by simp) (by rw [encs_append]; rfl)); have hk9 : w9.cell? ⟨g, 4, none⟩ = some (.slice A' ks.length c') := (blk_cell BK9.out 4).trans rfl; have hz_9 := blk_frozen BK9.out 4; clear ho9 hb9 hg9 hat9 hc4))
    go_wp2
    go_ret2
    exact .inl ⟨2, _, .inr ⟨HH.out, by rw [HKE.out]; rfl⟩, rfl, HX3.out.2.2.2.2.2.2, by decide⟩

end Go.Proofs.Ytmanmjjjepdhlaa.XPrefix
