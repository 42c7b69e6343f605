/- match.Tokens: what it hands back, place by place. It has no conditions. -/
import Derived.Test.YtlgdjacgdflfaaaYMatch
namespace Go.Proofs.Ytlgdjacgdflfaaa.XMatchTokens
set_option linter.unusedVariables false
set_option linter.unusedSimpArgs false
open Go.RowKit Go.Proofs.YtlgdjacgdflfaaaW.PrintWords Go.Proofs.YtlgdjacgdflfaaaW.PrintLast Go.Proofs.YtlgdjacgdflfaaaW.PrintMore
attribute [local go_sem] max2_int min2_int max_two min_two max_three min_three max_four min_four
attribute [local go_sem ↓] Go.wp_at_zero Go.wp_at_succ

theorem look_call (level : Nat) (hl : level ≤ 3) (w0 : World) (g gl ga : Nat) (S : ByteArray) (LL AA : Nat → Int) (p : Nat) (hp : p < S.size) (hS : S.size ≤ 4194304) (hBd : Bd S LL AA p) (w : World) (hI : FS w0 w g gl ga S (triesOf level : Nat) LL AA) :
    Calls Try.prog (fnOf level) #[.pointer (some ⟨g, 0, none⟩), .int .i64 (p : Int)] w fun e w' => e = .returned (.tuple #[.int .i64 ((lookf level S (triesOf level) LL AA p).1 : Int), .int .i64 ((lookf level S (triesOf level) LL AA p).2 : Int)]) ∧ ∃ m, w' = w.drewN m := by
  have ht : triesOf level ≤ 1000 := by unfold triesOf; split <;> (try split) <;> (try split) <;> omega
  by_cases h0 : level = 0
  · subst h0
    exact none_quiet _ _ w
  · by_cases h1 : level = 1
    · subst h1
      exact eager_quiet w0 g gl ga S (triesOf 1) LL AA p p ht (Nat.le_refl _) (by omega) hS hBd w hI
    · have e : fnOf level = 68 := by unfold fnOf; rw [if_neg h0, if_neg h1]
      rw [e]
      exact lazy_quiet w0 g gl ga S (triesOf level) LL AA p p ht (Nat.le_refl _) hp hS hBd level (by omega) w hI
theorem info30 : (Try.prog.info? 30).map (fun i => (i.zero, i.size, i.bytes)) = some (some (.agg #[.int .u8 0, .int .i64 0, .int .i64 0]), 3, 24) := by kernel_rfl
def Rt (x : S30) (cs : List Value) : Prop := cs = [.int .u8 x.f0, .int .i64 x.f1, .int .i64 x.f2]
/-- Tokens that are the call's own. -/
def OT (w0 W : World) (v : Value) (l : List S30) : Prop := ∃ cs, W.ownsRow w0.heap.size 30 3 v l.length cs ∧ Reps Rt 3 l cs
theorem OT.below {w0 W W1 : World} {v : Value} {l : List S30} (h : OT w0 W v l) (hb : Below W.heap.size W W1) : OT w0 W1 v l := by
  obtain ⟨cs, h1, h2⟩ := h
  exact ⟨cs, own_move h1 (fun k hk => hb.block k (h1.lt k hk).2), h2⟩
theorem OT.form {w0 W : World} {v : Value} {l : List S30} (h : OT w0 W v l) : ∃ A c, v = .slice A l.length c ∧ l.length ≤ c := by
  obtain ⟨cs, h1, h2⟩ := h
  rcases h1.2 with ⟨h, h2⟩ | ⟨k, cap, cur, h, _, _, h5, _⟩
  · exact ⟨none, 0, by rw [h, h2], by omega⟩
  · exact ⟨_, _, h, h5⟩
theorem OT.cap {w0 W : World} {A : Option Addr} {n c : Nat} {l : List S30} (h : OT w0 W (.slice A n c) l) : l.length ≤ c := by
  obtain ⟨cs, h1, h2⟩ := h
  rcases h1.2 with ⟨h, h2⟩ | ⟨k, cap, cur, h, _, _, h5, _⟩
  · omega
  · injection h with _ _ h3
    omega
theorem bt_nat (S : ByteArray) (p : Nat) (h : p < S.size) : bt S (p : Int) = ((S[p]'h).toNat : Int) := by
  unfold bt
  rw [dif_pos (by rw [Int.toNat_natCast]; exact h)]
  simp only [Int.toNat_natCast]
theorem OT.C {w0 W : World} {A : Option Addr} {c : Nat} {l : List S30} (h : OT w0 W (.slice A l.length c) l) : Kd.C k30 W A l.length l := by
  obtain ⟨cs, h1, h2⟩ := h
  obtain ⟨A2, c2, e, hr⟩ := own_reads_row h1 h2 rfl
  injection e with e
  subst e
  exact ReadsRow.imp_ hr (Below.refl _ _) (fun x cs hx => by rw [hx]; exact k30_mk W x)
theorem FS.fr {w0 W W1 : World} {g gl ga : Nat} {v : Value} {l : List S30} (h : OT w0 W v l) {S : ByteArray} {tries : Int} {LL AA : Nat → Int} (hF : FS w0 W g gl ga S tries LL AA) (hf : FR W W1 gl ga) : OT w0 W1 v l := by
  obtain ⟨cs, h1, h2⟩ := h
  refine ⟨cs, own_move h1 (fun k hk => ?_), h2⟩
  obtain ⟨cells, hc⟩ := own_typed h1 k hk
  exact hf.2 k (h1.lt k hk).2 (blk_ne hc hF.2.1 (by decide)) (blk_ne hc hF.2.2.1 (by decide))
theorem FS.grown {w0 W W1 : World} {g gl ga : Nat} {v : Value} {l : List S30} (h : OT w0 W v l) {S : ByteArray} {tries : Int} {LL AA : Nat → Int} (hF : FS w0 W g gl ga S tries LL AA) (hg : W.grownBy W1 v.ownBlock) : FS w0 W1 g gl ga S tries LL AA := by
  obtain ⟨cs, h1, h2⟩ := h
  have hne : ∀ {k : Nat} {cells : Array Value} {t : TypeId}, W.heap[k]? = some (.cells cells t (0, 0)) → 30 ≠ t → W1.heap[k]? = some (.cells cells t (0, 0)) := by
    intro k cells t hk ht
    refine (hg.block k (blk_lt hk) (fun e => ?_)).trans hk
    obtain ⟨cells2, hc⟩ := own_typed h1 k e.symm
    exact blk_ne hc hk ht rfl
  exact ⟨hne hF.1 (by decide), hne hF.2.1 (by decide), hne hF.2.2.1 (by decide), hF.2.2.2⟩

set_option maxHeartbeats 3200000 in
set_option maxRecDepth 100000 in
theorem tokens_walk (level : Nat) (hl : level ≤ 3) (S : ByteArray) (hS : S.size ≤ 100000) (w : World) :
    Calls Try.prog 28 #[.string S, .int .i64 (level : Int)] w fun e w' => ∃ (A : Option Addr) (c : Nat) (l : List S30) (LL AA : Nat → Int), e = .returned (.tuple #[.slice A l.length c, .int .i64 0]) ∧ Run level S S.size l LL AA ∧ l.length ≤ c ∧ Kd.C k30 w' A l.length l ∧ Below w.heap.size w w' := by
  have hu30 := Try.underlying30
  have hu22 := Try.underlying22
  obtain ⟨i0, hi0, hz0, hz1, hz2⟩ := info_parts info30
  have WY := Aside0.mk (way_walk level hl S (by omega) w)
  have LK := Aside0.mk (look_call level hl w)
  have b0 : 0 ≤ (level : Int) := by omega
  have d0 : decide ((level : Int) < 0) = false := decide_eq_false (by omega)
  have d1 : decide (3 < (level : Int)) = false := decide_eq_false (by omega)
  have d2 : decide (4194304 < (S.size : Int)) = false := decide_eq_false (by omega)
  obtain ⟨fn, hfn⟩ : ∃ fn, fnOf level = fn := ⟨_, rfl⟩
  rw [hfn] at WY LK
  have h3 : fn = 66 ∨ fn = 67 ∨ fn = 68 := by rw [← hfn]; unfold fnOf; split <;> (try split) <;> omega
  clear hfn
  rcases h3 with rfl | rfl | rfl
  all_goals
    go_enter Try.func28, Try.ntmps28
    go_wp2_with fail
    refine WY.out.mono ?_
    rintro e w1 ⟨g, gl, ga, rfl, F, hb⟩
    have F0 := Aside0.mk F
    have HB0 := Aside0.mk hb
    clear F hb WY d0 d1 d2
    go_wp2_with fail
    go_loopw [6, 9, 10, 11, 12] (fun v6 v9 v10 v11 v12 wr => ∃ (p : Nat) (l : List S30) (LL AA : Nat → Int) (A : Option Addr) (c : Nat), v6 = .slice A l.length c ∧ v9 = .int .i64 (p : Int) ∧ Aside0 (Run level S p l LL AA) ∧ Aside0 (FS w wr g gl ga S (triesOf level : Nat) LL AA) ∧ Aside0 (OT w wr (.slice A l.length c) l) ∧ Aside0 (Below w.heap.size w wr)) (fun _ v9 _ _ _ _ => S.size - (intOf v9).toNat)
    case atStart => exact ⟨0, [], _, _, none, 0, rfl, rfl, ⟨Run.start⟩, F0, ⟨[], World.ownsRow_nil _ _ _ _, Reps.none _ _⟩, HB0⟩
    case round =>
      clear F0 HB0
      obtain ⟨p, l, LL, AA, A, c, rfl, rfl, RN, F, O, HB⟩ := hrel
      have hbd := RN.out.bd
      by_cases hp : p < S.size
      · have c0 : decide ((p : Int) < (S.size : Int)) = true := decide_eq_true (by omega)
        have c00 : decide (p < S.size) = true := decide_eq_true hp
        have LC := Aside0.mk (LK.out g gl ga S LL AA p hp (by omega) hbd.1 wr F.out)
        have sl := step_le level S (triesOf level) LL AA p hp hbd.1
        have RN2 := Aside0.mk (Run.step RN.out hp)
        obtain ⟨r, hr⟩ : ∃ r, lookf level S (triesOf level) LL AA p = r := ⟨_, rfl⟩
        rw [hr] at LC sl RN2
        obtain ⟨n, b⟩ := r
        have b5 : (p : Int) ≤ 100000 := by omega
        have b6 : 0 ≤ (p : Int) := by omega
        have b7 : (p : Int) < (S.size : Int) := by omega
        have LN := Aside0.mk (show l.length ≤ 100000 by omega)
        have PP := Aside0.mk hp
        have SL := Aside0.mk sl
        clear hr hbd hp sl
        by_cases h0 : n = 0
        · have e0 : ((n : Int) == 0) = true := beq_iff_eq.mpr (by omega)
          have hx := bt_at S (p : Int)
          have y6 := eq_true b6
          have y7 := eq_true b7
          have N0 := Aside0.mk h0
          clear h0 b6 b7
          go_wp2_with fail
          ((with_reducible refine LC.out.mono ?_); rintro e w2 ⟨rfl, m2, rfl⟩)
          go_upto_region 14 with (first | ((with_reducible refine gate_dst (N := 12) rfl ?_); refine box_event rfl (N := 12) rfl (cs := #[.int .u8 0, .int .i64 0, .int .i64 0]) (t := 30) (by first | (go_simp; done) | (go_simp; rfl)) ?_; intro gt hg w5 hblk hb3; have BR := Aside0.mk hblk; have z0 := (blk_cell hblk 0); have z1 := (blk_cell hblk 1); have z2 := (blk_cell hblk 2); have y0 := blk_frozen hblk 0; have y1 := blk_frozen hblk 1; have y2 := blk_frozen hblk 2; have HG := Aside0.mk hg; have HB5 := Aside0.mk hb3; clear hg hblk hb3))
          obtain ⟨Y, hY⟩ : ∃ Y : Int, ((S[p]'PP.out).toNat : Int) = Y := ⟨_, rfl⟩
          rw [hY]
          have SO := Aside0.mk (show stepOf (n, b) = 1 from if_pos N0.out)
          have TKO := Aside0.mk (show tokOf S p (n, b) = ⟨Y, (n : Int), (b : Int)⟩ from by rw [← hY, ← bt_nat, N0.out]; exact if_pos rfl)
          have M1 := Aside0.mk (show 1 ≤ 1 from Nat.le_refl _)
          clear hY
          have BRc := Aside0.mk (show (((((w5.setCell ⟨gt, 0, none⟩ (.int .u8 0)).setCell ⟨gt, 1, none⟩ (.int .i64 (n : Int))).setCell ⟨gt, 2, none⟩ (.int .i64 (b : Int))).setCell ⟨gt, 0, none⟩ (.int .u8 Y))).heap[gt]? = some (.cells #[.int .u8 Y, .int .i64 (n : Int), .int .i64 (b : Int)] 30 (0, 0)) from by
            refine blk_put (cs := #[.int .u8 0, .int .i64 (n : Int), .int .i64 (b : Int)]) ?_ 0 _ rfl
            refine blk_put (cs := #[.int .u8 0, .int .i64 (n : Int), .int .i64 0]) ?_ 2 _ rfl
            refine blk_put (cs := #[.int .u8 0, .int .i64 0, .int .i64 0]) ?_ 1 _ rfl
            refine blk_put (cs := #[.int .u8 0, .int .i64 0, .int .i64 0]) ?_ 0 _ rfl
            exact BR.out)
          have hgt : wr.heap.size ≤ gt := by have := HG.out; simp at this; omega
          have BW := Aside0.mk (show Below wr.heap.size wr (((((w5.setCell ⟨gt, 0, none⟩ (.int .u8 0)).setCell ⟨gt, 1, none⟩ (.int .i64 (n : Int))).setCell ⟨gt, 2, none⟩ (.int .i64 (b : Int))).setCell ⟨gt, 0, none⟩ (.int .u8 Y))) from by
            have h5 : Below wr.heap.size wr w5 := ⟨HB5.out.os, HB5.out.tape, HB5.out.output, HB5.out.size, HB5.out.block⟩
            repeat (first | exact h5 | refine below_set ?_ hgt))
          have F5 := Aside0.mk (F.out.below BW.out)
          have O5 := Aside0.mk (O.out.below BW.out)
          have HBc := Aside0.mk (below_step HB.out BW.out)
          clear F O HB BR z0 z1 z2 y0 y1 y2 HG HB5 hgt BW
          generalize (((((w5.setCell ⟨gt, 0, none⟩ (.int .u8 0)).setCell ⟨gt, 1, none⟩ (.int .i64 (n : Int))).setCell ⟨gt, 2, none⟩ (.int .i64 (b : Int))).setCell ⟨gt, 0, none⟩ (.int .u8 Y))) = Wc at BRc F5 O5 HBc ⊢
          have z0 := (blk_cell BRc.out 0).trans rfl
          have z1 := (blk_cell BRc.out 1).trans rfl
          have z2 := (blk_cell BRc.out 2).trans rfl
          obtain ⟨CS, hCo, hCr⟩ := O5.out
          have CO := Aside0.mk hCo
          have CR := Aside0.mk hCr
          obtain ⟨l2, hl2⟩ : ∃ l2, l ++ [(⟨Y, (n : Int), (b : Int)⟩ : S30)] = l2 := ⟨_, rfl⟩
          have hlen : l2.length = l.length + 1 := by rw [← hl2]; simp
          have L2 := Aside0.mk hl2
          have LN2 := Aside0.mk hlen
          clear hCo hCr hl2 hlen
          go_wp2_with (first
            | (at_builtin; refine wpList_append_lies _ (by rfl) (.tmp 49) (.tmp 51) 22 (by rfl) w.heap.size 30 i0 _ 3 24 Try.underlying22 hi0 hz0 hz1 hz2 rfl (by omega) (.slice A l.length c) l.length CS (by rfl) (CO.out.alloc _) ⟨Wc.heap.size, 0, none⟩ 1 1 [.int .u8 Y, .int .i64 (n : Int), .int .i64 (b : Int)] (by rfl) (by rfl) (World.news_of_block (cs := #[.int .u8 Y, .int .i64 (n : Int), .int .i64 (b : Int)]) (t := 30) (fr := (0, 0)) (heap_alloc_new Wc _)) (by simp [Value.oneCell']) (by omega) (by have := LN.out; simp only [maxLen]; omega) (by have := LN.out; omega) (by simp; have := below_size HBc.out; omega) (Wc.heap.size + 1) (by simp) ?_; intro gg cc w6 hown hgrow hat hlt6; have O6 := Aside0.mk (show OT w w6 (.slice (some ⟨gg, 0, none⟩) (l.length + 1) cc) l2 from ⟨_, by rw [LN2.out]; exact hown, by rw [← L2.out]; exact CR.out.snoc rfl rfl⟩); have F6 := Aside0.mk (FS.grown (O5.out.below (below_alloc (Below.refl _ _) _)) (F5.out.below (below_alloc (Below.refl _ _) _)) hgrow); have HB6 := Aside0.mk (show Below w.heap.size w w6 from Below.grown (below_alloc HBc.out _) hgrow (by simp; have := below_size HBc.out; omega) (own_base CO.out)); clear hown hgrow hat hlt6))
          clear CO CR F5 O5 HBc BRc z0 z1 z2
          go_loopw [9, 54] (fun v9 v54 wr2 => ∃ j q : Nat, j ≤ 1 ∧ Aside0 (q = p + j) ∧ v9 = .int .i64 (q : Int) ∧ v54 = .int .i64 (j : Int) ∧ Aside0 (FS w wr2 g gl ga S (triesOf level : Nat) (ents S p (LL, AA) j).1 (ents S p (LL, AA) j).2) ∧ Aside0 (OT w wr2 (.slice (some ⟨gg, 0, none⟩) (l.length + 1) cc) l2) ∧ Aside0 (Below w.heap.size w wr2)) (fun _ v54 _ => 1 - (intOf v54).toNat)
          case atStart => exact ⟨0, p, by omega, ⟨by omega⟩, rfl, rfl, F6, O6, HB6⟩
          case round =>
            clear F6 O6 HB6
            obtain ⟨j, q, hj, HQ, rfl, rfl, F7, O7, HB7⟩ := hrel
            by_cases hjm : j < 1
            · have cj : decide ((j : Int) < 1) = true := decide_eq_true (by omega)
              have EN := Aside0.mk (enter_walk w g gl ga S (triesOf level : Nat) (ents S p (LL, AA) j).1 (ents S p (LL, AA) j).2 q (by have := SL.out; have := HQ.out; have := SO.out; omega) (by omega) _ F7.out HB7.out)
              have q5 : (q : Int) ≤ 200000 := by have := HQ.out; have := SL.out; have := SO.out; omega
              have q6 : 0 ≤ (q : Int) := by omega
              have JM := Aside0.mk hjm
              clear hjm
              go_wp2_with fail
              ((with_reducible refine EN.out.mono ?_); rintro e w8 ⟨rfl, F8, R8, hb8⟩)
              have F8 := Aside0.mk F8
              have O8 := Aside0.mk (FS.fr O7.out F7.out R8)
              have HB8 := Aside0.mk hb8
              clear hb8 R8 F7 O7 HB7 EN
              go_wp2_with fail
              go_roundw
              case rel => exact ⟨j + 1, q + 1, by have := JM.out; omega, ⟨by have := HQ.out; omega⟩, by go_num, by go_num, ⟨by have e1 := HQ.out; subst e1; exact F8.out⟩, O8, HB8⟩
              case measure => have := JM.out; simp [intOf]; omega
            · have cj : decide ((j : Int) < 1) = false := decide_eq_false (by omega)
              have hje : j = 1 := by omega
              have JE := Aside0.mk hje
              clear hjm hje hj
              go_wp2_with fail
              go_roundw
              case rel => exact ⟨q, l2, (ents S p (LL, AA) j).1, (ents S p (LL, AA) j).2, _, cc, by rw [LN2.out], rfl, ⟨by
                have h1 := RN2.out
                have h2 : stepOf (n, b) = j := by rw [JE.out]; exact SO.out
                have h3 : tokOf S p (n, b) = ⟨Y, (n : Int), (b : Int)⟩ := TKO.out
                rw [h2, h3, L2.out, ← HQ.out] at h1
                exact h1⟩, F7, ⟨by rw [LN2.out]; exact O7.out⟩, HB7⟩
              case measure => have := JE.out; have := HQ.out; have := PP.out; simp [intOf]; have := M1.out; omega
        · have e0 : ((n : Int) == 0) = false := beq_eq_false_iff_ne.mpr (by omega)
          have SO := Aside0.mk (show stepOf (n, b) = n from if_neg h0)
          have TKO := Aside0.mk (show tokOf S p (n, b) = ⟨0, (n : Int), (b : Int)⟩ from if_neg h0)
          have M1 := Aside0.mk (show 1 ≤ n from by omega)
          have N5 := Aside0.mk (show n ≤ 200000 from by have := SL.out.1; rw [SO.out] at this; omega)
          clear h0 b6 b7
          go_wp2_with fail
          ((with_reducible refine LC.out.mono ?_); rintro e w2 ⟨rfl, m2, rfl⟩)
          go_upto_region 14 with (first | ((with_reducible refine gate_dst (N := 12) rfl ?_); refine box_event rfl (N := 12) rfl (cs := #[.int .u8 0, .int .i64 0, .int .i64 0]) (t := 30) (by first | (go_simp; done) | (go_simp; rfl)) ?_; intro gt hg w5 hblk hb3; have BR := Aside0.mk hblk; have z0 := (blk_cell hblk 0); have z1 := (blk_cell hblk 1); have z2 := (blk_cell hblk 2); have y0 := blk_frozen hblk 0; have y1 := blk_frozen hblk 1; have y2 := blk_frozen hblk 2; have HG := Aside0.mk hg; have HB5 := Aside0.mk hb3; clear hg hblk hb3))
          have BRc := Aside0.mk (show ((((w5.setCell ⟨gt, 0, none⟩ (.int .u8 0)).setCell ⟨gt, 1, none⟩ (.int .i64 (n : Int))).setCell ⟨gt, 2, none⟩ (.int .i64 (b : Int)))).heap[gt]? = some (.cells #[.int .u8 0, .int .i64 (n : Int), .int .i64 (b : Int)] 30 (0, 0)) from by
            refine blk_put (cs := #[.int .u8 0, .int .i64 (n : Int), .int .i64 0]) ?_ 2 _ rfl
            refine blk_put (cs := #[.int .u8 0, .int .i64 0, .int .i64 0]) ?_ 1 _ rfl
            refine blk_put (cs := #[.int .u8 0, .int .i64 0, .int .i64 0]) ?_ 0 _ rfl
            exact BR.out)
          have hgt : wr.heap.size ≤ gt := by have := HG.out; simp at this; omega
          have BW := Aside0.mk (show Below wr.heap.size wr ((((w5.setCell ⟨gt, 0, none⟩ (.int .u8 0)).setCell ⟨gt, 1, none⟩ (.int .i64 (n : Int))).setCell ⟨gt, 2, none⟩ (.int .i64 (b : Int)))) from by
            have h5 : Below wr.heap.size wr w5 := ⟨HB5.out.os, HB5.out.tape, HB5.out.output, HB5.out.size, HB5.out.block⟩
            repeat (first | exact h5 | refine below_set ?_ hgt))
          have F5 := Aside0.mk (F.out.below BW.out)
          have O5 := Aside0.mk (O.out.below BW.out)
          have HBc := Aside0.mk (below_step HB.out BW.out)
          clear F O HB BR z0 z1 z2 y0 y1 y2 HG HB5 hgt BW
          generalize ((((w5.setCell ⟨gt, 0, none⟩ (.int .u8 0)).setCell ⟨gt, 1, none⟩ (.int .i64 (n : Int))).setCell ⟨gt, 2, none⟩ (.int .i64 (b : Int)))) = Wc at BRc F5 O5 HBc ⊢
          have z0 := (blk_cell BRc.out 0).trans rfl
          have z1 := (blk_cell BRc.out 1).trans rfl
          have z2 := (blk_cell BRc.out 2).trans rfl
          obtain ⟨CS, hCo, hCr⟩ := O5.out
          have CO := Aside0.mk hCo
          have CR := Aside0.mk hCr
          obtain ⟨l2, hl2⟩ : ∃ l2, l ++ [(⟨0, (n : Int), (b : Int)⟩ : S30)] = l2 := ⟨_, rfl⟩
          have hlen : l2.length = l.length + 1 := by rw [← hl2]; simp
          have L2 := Aside0.mk hl2
          have LN2 := Aside0.mk hlen
          clear hCo hCr hl2 hlen
          go_wp2_with (first
            | (at_builtin; refine wpList_append_lies _ (by rfl) (.tmp 49) (.tmp 51) 22 (by rfl) w.heap.size 30 i0 _ 3 24 Try.underlying22 hi0 hz0 hz1 hz2 rfl (by omega) (.slice A l.length c) l.length CS (by rfl) (CO.out.alloc _) ⟨Wc.heap.size, 0, none⟩ 1 1 [.int .u8 0, .int .i64 (n : Int), .int .i64 (b : Int)] (by rfl) (by rfl) (World.news_of_block (cs := #[.int .u8 0, .int .i64 (n : Int), .int .i64 (b : Int)]) (t := 30) (fr := (0, 0)) (heap_alloc_new Wc _)) (by simp [Value.oneCell']) (by omega) (by have := LN.out; simp only [maxLen]; omega) (by have := LN.out; omega) (by simp; have := below_size HBc.out; omega) (Wc.heap.size + 1) (by simp) ?_; intro gg cc w6 hown hgrow hat hlt6; have O6 := Aside0.mk (show OT w w6 (.slice (some ⟨gg, 0, none⟩) (l.length + 1) cc) l2 from ⟨_, by rw [LN2.out]; exact hown, by rw [← L2.out]; exact CR.out.snoc rfl rfl⟩); have F6 := Aside0.mk (FS.grown (O5.out.below (below_alloc (Below.refl _ _) _)) (F5.out.below (below_alloc (Below.refl _ _) _)) hgrow); have HB6 := Aside0.mk (show Below w.heap.size w w6 from Below.grown (below_alloc HBc.out _) hgrow (by simp; have := below_size HBc.out; omega) (own_base CO.out)); clear hown hgrow hat hlt6))
          clear CO CR F5 O5 HBc BRc z0 z1 z2
          go_loopw [9, 54] (fun v9 v54 wr2 => ∃ j q : Nat, j ≤ n ∧ Aside0 (q = p + j) ∧ v9 = .int .i64 (q : Int) ∧ v54 = .int .i64 (j : Int) ∧ Aside0 (FS w wr2 g gl ga S (triesOf level : Nat) (ents S p (LL, AA) j).1 (ents S p (LL, AA) j).2) ∧ Aside0 (OT w wr2 (.slice (some ⟨gg, 0, none⟩) (l.length + 1) cc) l2) ∧ Aside0 (Below w.heap.size w wr2)) (fun _ v54 _ => n - (intOf v54).toNat)
          case atStart => exact ⟨0, p, by omega, ⟨by omega⟩, rfl, rfl, F6, O6, HB6⟩
          case round =>
            clear F6 O6 HB6
            obtain ⟨j, q, hj, HQ, rfl, rfl, F7, O7, HB7⟩ := hrel
            by_cases hjm : j < n
            · have cj : decide (j < n) = true := decide_eq_true (by omega)
              have EN := Aside0.mk (enter_walk w g gl ga S (triesOf level : Nat) (ents S p (LL, AA) j).1 (ents S p (LL, AA) j).2 q (by have := SL.out; have := HQ.out; have := SO.out; omega) (by omega) _ F7.out HB7.out)
              have q5 : (q : Int) ≤ 200000 := by have := HQ.out; have := SL.out; have := SO.out; omega
              have q6 : 0 ≤ (q : Int) := by omega
              have jb : (j : Int) ≤ 200000 := by have := N5.out; omega
              have JM := Aside0.mk hjm
              clear hjm
              go_wp2_with fail
              ((with_reducible refine EN.out.mono ?_); rintro e w8 ⟨rfl, F8, R8, hb8⟩)
              have F8 := Aside0.mk F8
              have O8 := Aside0.mk (FS.fr O7.out F7.out R8)
              have HB8 := Aside0.mk hb8
              clear hb8 R8 F7 O7 HB7 EN
              go_wp2_with fail
              go_roundw
              case rel => exact ⟨j + 1, q + 1, by have := JM.out; omega, ⟨by have := HQ.out; omega⟩, by go_num, by go_num, ⟨by have e1 := HQ.out; subst e1; exact F8.out⟩, O8, HB8⟩
              case measure => have := JM.out; simp [intOf]; omega
            · have cj : decide (j < n) = false := decide_eq_false (by omega)
              have hje : j = n := by omega
              have JE := Aside0.mk hje
              clear hjm hje hj
              go_wp2_with fail
              go_roundw
              case rel => exact ⟨q, l2, (ents S p (LL, AA) j).1, (ents S p (LL, AA) j).2, _, cc, by rw [LN2.out], rfl, ⟨by
                have h1 := RN2.out
                have h2 : stepOf (n, b) = j := by rw [JE.out]; exact SO.out
                have h3 : tokOf S p (n, b) = ⟨0, (n : Int), (b : Int)⟩ := TKO.out
                rw [h2, h3, L2.out, ← HQ.out] at h1
                exact h1⟩, F7, ⟨by rw [LN2.out]; exact O7.out⟩, HB7⟩
              case measure => have := JE.out; have := HQ.out; have := PP.out; simp [intOf]; have := M1.out; omega
      · have c0 : decide ((p : Int) < (S.size : Int)) = false := decide_eq_false (by omega)
        have c00 : decide (p < S.size) = false := decide_eq_false hp
        have PE := Aside0.mk (show p = S.size from by omega)
        clear hp hbd
        go_wp2
        go_ret2
        exact ⟨A, c, l, LL, AA, rfl, by rw [← PE.out]; exact RN.out, O.out.cap, O.out.C, HB.out⟩
end Go.Proofs.Ytlgdjacgdflfaaa.XMatchTokens
