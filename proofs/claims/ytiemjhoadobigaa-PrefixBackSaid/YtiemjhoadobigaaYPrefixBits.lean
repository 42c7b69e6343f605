/- bits.Writer: what its functions do to a writer and its bytes. It has no conditions. -/
import Derived.Test.YtiemjhoadobigaaXPrefixReadsx
import Derived.BigRegion
import Derived.RegionTactic
import Derived.ChangeAlike
import Derived.Deep.RegionWith
import Derived.Deep.RegionLaw
import Derived.Laws.Tables
import Derived.Deep.QuietTactic
import Derived.BigQuiet
import Derived.Deep.RegionHeld3
import Derived.Deep.AppendLies
namespace Go.Proofs.Ytiemjhoadobigaa.XPrefixReads
set_option linter.unusedVariables false
set_option linter.unusedSimpArgs false
open Go.RowKit Go.Proofs.YtiemjhoadobigaaW.PrintWords Go.Proofs.YtiemjhoadobigaaW.PrintLast Go.Proofs.YtiemjhoadobigaaW.PrintMore
attribute [local go_sem] max2_int min2_int max_two min_two max_three min_three max_four min_four

/-- A writer at block g of W; its bytes are the call's own. -/
def IsW (w0 W : World) (g : Nat) (v : Value) (B : List Int) (last n : Int) : Prop :=
  W.heap[g]? = some (.cells #[v, .int .u64 last, .int .i64 n] 66 (0, 0)) ∧ w0.heap.size ≤ g ∧ W.ownsRow w0.heap.size 5 1 v B.length (encs (Value.int .u8) B)

theorem own_ne {W : World} {g base e : Nat} {cs : Array Value} {v : Value} {n : Nat} {xs : List Value} {t : TypeId} (hb : W.heap[g]? = some (.cells cs t (0, 0))) (ho : W.ownsRow base e 1 v n xs) (hne : e ≠ t) : v.ownBlock ≠ some g := by
  obtain ⟨_, h⟩ := ho
  rcases h with ⟨rfl, _⟩ | ⟨k, cap, cur, rfl, _, hk, _⟩
  · simp [Value.ownBlock]
  · intro e2
    injection e2 with e2
    have e3 : k = g := e2
    subst e3
    rw [hb] at hk
    injection hk with hk
    injection hk with _ ht
    exact hne ht.symm

theorem own_set {W : World} {g base e n : Nat} {v : Value} {xs : List Value} (hne : v.ownBlock ≠ some g) (ho : W.ownsRow base e 1 v n xs) (j : Nat) (u : Value) : (W.setCell ⟨g, j, none⟩ u).ownsRow base e 1 v n xs :=
  KeepBut.own ((KeepBut.refl W g none).set_ j u) ho hne (by cases v.ownBlock <;> simp)
theorem IsW.ne {w0 W : World} {g : Nat} {v : Value} {B : List Int} {last n : Int} (h : IsW w0 W g v B last n) : v.ownBlock ≠ some g := own_ne h.1 h.2.2 (by decide)
theorem IsW.set1 {w0 W : World} {g : Nat} {v : Value} {B : List Int} {last n : Int} (h : IsW w0 W g v B last n) (x : Int) : IsW w0 (W.setCell ⟨g, 1, none⟩ (.int .u64 x)) g v B x n := ⟨by simpa using blk_set h.1 1 (.int .u64 x), h.2.1, own_set h.ne h.2.2 _ _⟩
theorem IsW.set2 {w0 W : World} {g : Nat} {v : Value} {B : List Int} {last n : Int} (h : IsW w0 W g v B last n) (x : Int) : IsW w0 (W.setCell ⟨g, 2, none⟩ (.int .i64 x)) g v B last x := ⟨by simpa using blk_set h.1 2 (.int .i64 x), h.2.1, own_set h.ne h.2.2 _ _⟩
theorem IsW.drewN {w0 W : World} {g : Nat} {v : Value} {B : List Int} {last n : Int} (h : IsW w0 W g v B last n) (m : Nat) : IsW w0 (W.drewN m) g v B last n := h

/-- Whole bytes out of a number's bits, the lowest first, k at most. -/
def fl : Nat → List Int → Int → Int → List Int × Int × Int
  | 0, B, T, n => (B, T, n)
  | k + 1, B, T, n => if 8 ≤ n then fl k (B ++ [T % 256]) (T / 256) (n - 8) else (B, T, n)

/-- What a writer's call leaves. -/
def PutPost (w0 w : World) (g : Nat) (v : Value) (r : List Int × Int × Int) (w' : World) : Prop :=
  ∃ v', IsW w0 w' g v' r.1 r.2.1 r.2.2 ∧ Below w0.heap.size w0 w' ∧ KeepBut w w' g v.ownBlock ∧ (v'.ownBlock = v.ownBlock ∨ ∃ b, v'.ownBlock = some b ∧ w.heap.size ≤ b)

theorem IsW.set0 {w0 W : World} {g : Nat} {v v1 : Value} {B : List Int} {last n : Int} {m : Nat} {xs : List Value} (hb : W.heap[g]? = some (.cells #[v, .int .u64 last, .int .i64 n] 66 (0, 0))) (hg : w0.heap.size ≤ g) (ho : W.ownsRow w0.heap.size 5 1 v1 m xs) (hm : B.length = m) (hx : encs (Value.int .u8) B = xs) : IsW w0 (W.setCell ⟨g, 0, none⟩ v1) g v1 B last n := by
  subst hm hx
  exact ⟨by simpa using blk_set hb 0 v1, hg, own_set (own_ne hb ho (by decide)) ho _ _⟩
theorem keep_alloc2 {w W : World} {g : Nat} {row : Option Nat} (h : KeepBut w W g row) (o : Obj) : KeepBut w (W.alloc o) g row := h.trans (KeepBut.of_grown (World.grownBy_alloc W o row) g) (.inl rfl)
theorem own_alt {w wr : World} {v v' : Value} {gg : Nat} (hs : w.heap.size ≤ wr.heap.size) (hv : v'.ownBlock = v.ownBlock ∨ ∃ b, v'.ownBlock = some b ∧ w.heap.size ≤ b) (hat : v'.ownBlock = some gg ∨ gg = wr.heap.size + 1) {n c : Nat} : (Value.slice (some ⟨gg, 0, none⟩) n c).ownBlock = v.ownBlock ∨ ∃ b, (Value.slice (some ⟨gg, 0, none⟩) n c).ownBlock = some b ∧ w.heap.size ≤ b := by
  rcases hat with hat | hat
  · have : (Value.slice (some ⟨gg, 0, none⟩) n c).ownBlock = v'.ownBlock := hat.symm
    rw [this]
    exact hv
  · exact .inr ⟨gg, rfl, by omega⟩


theorem IsW.below {w0 W W1 : World} {g : Nat} {v : Value} {B : List Int} {last n : Int} (h : IsW w0 W g v B last n) (hb : Below W.heap.size W W1) : IsW w0 W1 g v B last n :=
  ⟨blk_below h.1 hb, h.2.1, own_move h.2.2 (fun k hk => hb.block k (h.2.2.lt k hk).2)⟩
theorem IsW.keep {w0 W W1 : World} {g g' : Nat} {v : Value} {B : List Int} {last n : Int} {cs : Array Value} {t : TypeId} (h : IsW w0 W g v B last n) (hk : KeepBut W W1 g' none) (h2 : W.heap[g']? = some (.cells cs t (0, 0))) (ht : t ≠ 66) (ht5 : 5 ≠ t) : IsW w0 W1 g v B last n :=
  ⟨hk.blk h.1 (blk_ne h.1 h2 (fun e => ht e.symm)) (by simp), h.2.1, hk.own h.2.2 (own_ne h2 h.2.2 ht5) (by cases v.ownBlock <;> simp)⟩
set_option maxHeartbeats 1600000 in
set_option maxRecDepth 100000 in
theorem put_walk (g : Nat) (v : Value) (B : List Int) (last n : Int) (x N : Int) (M T : Int) (w0 w : World) (hI : IsW w0 w g v B last n) (hB : Below w0.heap.size w0 w)
    (hn0 : 0 ≤ n) (hn8 : n < 8) (hM : M = if 32 < (if N < 0 then 0 else N) then 32 else (if N < 0 then 0 else N))
    (hT : bits BinOp.or IntKind.u64 last (IntKind.u64.wrap (bits BinOp.and IntKind.u64 x (IntKind.u64.wrap (IntKind.u64.wrap (2 ^ M.toNat) - 1)) * 2 ^ n.toNat)) = T)
    (hx0 : 0 ≤ x) (hx1 : x < 4294967296) (hT0 : 0 ≤ T) (hT1 : T < 18446744073709551616) (hBl : B.length ≤ 1000000000) :
    Calls Try.prog 29 #[.pointer (some ⟨g, 0, none⟩), .int .u32 x, .int .i64 N] w fun e w' => e = .returned (.tuple #[]) ∧ PutPost w0 w g v (fl 5 B T (n + M)) w' := by
  obtain ⟨hb, hg, ho⟩ := hI
  obtain ⟨i0, hi0, hz0, hz1, hz2⟩ := info_parts info5
  have hc1 := blk_cell hb 1
  have hc2 := blk_cell hb 2
  have hf1 := blk_frozen hb 1
  have hf2 := blk_frozen hb 2
  obtain ⟨M1, hM1⟩ : ∃ M : Int, (if N < 0 then 0 else N) = M := ⟨_, rfl⟩
  rw [hM1] at hM
  replace hM := hM.symm
  have q0 : 0 ≤ M := by rw [← hM, ← hM1]; split <;> split <;> omega
  have q1 : M ≤ 32 := by rw [← hM]; split <;> omega
  have p0 : ¬ M < 0 := by omega
  have p1 : ¬ n < 0 := by omega
  have p2 : IntKind.i64.wrap (n + M) = n + M := by rw [i64_w]; unfold wrap64; omega
  have HG := Aside0.mk hg
  have BK := Aside0.mk hb
  have HO := Aside0.mk ho
  have HB := Aside0.mk hB
  clear hb ho hB hg
  go_enter Try.func29, Try.ntmps29
  go_wp2
  go_region
  go_wp2_with fail
  go_loopg [] 5 (fun kq w' => ∃ (v' : Value) (B' : List Int) (T' n' : Int), Aside0 (IsW w0 w' g v' B' T' n') ∧ Aside0 (Below w0.heap.size w0 w') ∧ Aside0 (KeepBut w w' g v.ownBlock) ∧ Aside0 (v'.ownBlock = v.ownBlock ∨ ∃ b, v'.ownBlock = some b ∧ w.heap.size ≤ b) ∧ Aside0 (fl kq B' T' n' = fl 5 B T (n + M)) ∧ Aside0 (0 ≤ T' ∧ T' < 18446744073709551616 ∧ 0 ≤ n' ∧ n' < 8 * kq ∧ B'.length + kq ≤ B.length + 5 ∧ kq ≤ 5))
  case atStart =>
    exact ⟨v, B, T, n + M, ⟨IsW.set2 (IsW.set1 ⟨BK.out, HG.out, HO.out⟩ T) (n + M)⟩, ⟨below_drew1 (below_set (below_set HB.out HG.out) HG.out)⟩, ⟨((KeepBut.refl w g _).set_ _ _).set_ _ _⟩, ⟨.inl rfl⟩, ⟨rfl⟩, ⟨hT0, hT1, by omega, by omega, by omega, by omega⟩⟩
  case round =>
    clear BK HO HB hc1 hc2 hf1 hf2 hT p2
    obtain ⟨v', B', T', n', HI, HB, HK, HV, HF, HR⟩ := hrel
    obtain ⟨r0, r1, r2, r3, r4, r5⟩ := HR.out
    clear HR
    cases gk with
    | zero => exact absurd r3 (by omega)
    | succ k1 =>
      have hc1 := blk_cell HI.out.1 1
      have hc2 := blk_cell HI.out.1 2
      have hf1 := blk_frozen HI.out.1 1
      have hf2 := blk_frozen HI.out.1 2
      by_cases h8 : 8 ≤ n'
      · have d0 : decide (8 ≤ n') = true := decide_eq_true h8
        have e0 : IntKind.u8.wrap T' = T' % 256 := rfl
        go_wp2_with fail
        have hc0 : wr.cell? ⟨g, 0, none⟩ = some v' := (blk_cell HI.out.1 0).trans rfl
        replace hc1 : wr.cell? ⟨g, 1, none⟩ = some (.int .u64 T') := hc1.trans rfl
        have hne := Aside0.mk (own_ne HI.out.1 HI.out.2.2 (by decide))
        have hlt := blk_lt HI.out.1
        have hne0 := World.new_ne wr ⟨g, 0, none⟩ hc0
        have hne1 := World.new_ne wr ⟨g, 1, none⟩ hc1
        go_region_law
          ((refine step_append_lies _ (by rfl) _ _ _ (by rfl) w0.heap.size 5 i0 _ 1 1 Try.underlying33 hi0 hz0 hz1 hz2 rfl (by omega) v' B'.length (encs (Value.int .u8) B') (by rfl) ((HI.out.2.2.alloc _).drew)
              ⟨wr.heap.size, 0, none⟩ 1 1 [.int .u8 (T' % 256)] (by rfl) (by rfl) (World.news_of_block (cs := #[.int .u8 (T' % 256)]) (t := 5) (fr := (0, 0)) (heap_alloc_new wr _)) (by simp [Value.oneCell'])
              (by omega) (by simp only [maxLen]; omega) (by omega) (by simp; have := below_size HB.out; omega) (wr.heap.size + 1) (by simp) ?_; intro gg cap w1 hown1 hgrow hat hlt1; have BK1 := Aside0.mk (show w1.heap[g]? = some (.cells #[v', .int .u64 T', .int .i64 n'] 66 (0, 0)) from (hgrow.block g (by simp; omega) (fun e => hne.out e.symm)).trans (blk_alloc HI.out.1 _)); have HB1 := Aside0.mk (show Below w0.heap.size w0 w1 from Below.grown (below_drew1 (below_alloc HB.out _)) hgrow (by simp; have := below_size HB.out; omega) (own_base HI.out.2.2)); have HK1 := Aside0.mk (show KeepBut w w1 g v.ownBlock from KeepBut.trans (keep_drew (keep_alloc2 HK.out _)) (KeepBut.of_grown hgrow g) HV.out); have HV1 := Aside0.mk (own_alt HK.out.1 HV.out hat (n := B'.length + 1) (c := cap)); have HO1 := Aside0.mk hown1; clear hown1 hgrow hat; have hk0 : w1.cell? ⟨g, 0, none⟩ = some v' := (blk_cell BK1.out 0).trans rfl; have hk1 : w1.cell? ⟨g, 1, none⟩ = some (.int .u64 T') := (blk_cell BK1.out 1).trans rfl; have hk2 : w1.cell? ⟨g, 2, none⟩ = some (.int .i64 n') := (blk_cell BK1.out 2).trans rfl; have hz_0 := blk_frozen BK1.out 0; have hz_1 := blk_frozen BK1.out 1; have hz_2 := blk_frozen BK1.out 2))
        all_goals go_wp2_with fail
        all_goals
          go_roundg k1
          case measure => omega
          case rel => exact ⟨_, B' ++ [T' % 256], T' / 256, n' - 8, ⟨IsW.set2 (IsW.set1 (IsW.set0 BK1.out HG.out HO1.out (by simp) (by rw [encs_append]; rfl)) _) _⟩, ⟨by repeat (first | exact HB1.out | refine below_set ?_ HG.out | apply below_drew1)⟩, ⟨((HK1.out.set_ _ _).set_ _ _).set_ _ _⟩, HV1, ⟨by rw [← HF.out, fl, if_pos h8]⟩, ⟨by omega, by omega, by omega, by omega, by simp; omega, by omega⟩⟩
      · have d0 : decide (8 ≤ n') = false := decide_eq_false h8
        go_wp2
        go_end0
        have hf : fl (k1 + 1) B' T' n' = (B', T', n') := by rw [fl, if_neg (by omega)]
        exact ⟨rfl, by rw [← HF.out, hf]; exact ⟨v', HI.out, HB.out, HK.out, HV.out⟩⟩

set_option maxHeartbeats 800000 in
set_option maxRecDepth 100000 in
theorem new_walk (w0 w : World) (hB : Below w0.heap.size w0 w) :
    Calls Try.prog 10 #[] w fun e w' => ∃ g_ : Nat, e = .returned (.pointer (some ⟨g_, 0, none⟩)) ∧ IsW w0 w' g_ (.slice none 0 0) [] 0 0 ∧ w.heap.size ≤ g_ ∧ Below w.heap.size w w' := by
  have hu66 := Try.underlying66
  have HB := Aside0.mk hB
  clear hB
  go_enter Try.func10, Try.ntmps10
  go_wp2_with (first | ((with_reducible refine gate_dst (N := 2) rfl ?_); refine box_event ?hg (N := 2) ?hd (cs := #[.slice none 0 0, .int .u64 0, .int .i64 0]) (t := 66) ?hr ?_; (case hd => rfl); (case hg => rfl); (case hr => first | (go_simp; done) | (go_simp; rfl)); intro gb hg w1 hbox hb; have BK := Aside0.mk hbox; have HB1 := Aside0.mk hb; have GE := Aside0.mk (show w.heap.size ≤ gb from Nat.le_of_eq hg.symm); clear hg hbox hb))
  go_ret
  exact ⟨_, rfl, ⟨BK.out, Nat.le_trans (below_size HB.out) GE.out, World.ownsRow_nil _ _ _ _⟩, GE.out, HB1.out⟩

set_option maxHeartbeats 1600000 in
set_option maxRecDepth 100000 in
theorem text_walk (g : Nat) (v : Value) (B : List Int) (last n : Int) (w0 w : World) (hI : IsW w0 w g v B last n) (hn0 : 0 ≤ n) (hn8 : n < 8) (hT0 : 0 ≤ last) (hT1 : last < 256) (hBl : B.length ≤ 1000000000) :
    Calls Try.prog 14 #[.pointer (some ⟨g, 0, none⟩)] w fun e w' => e = .returned (.string (strOfNums (if n = 0 then B else B ++ [last]))) ∧ Below w.heap.size w w' := by
  obtain ⟨hb, hg, ho⟩ := hI
  have hc0 := blk_cell hb 0
  have hc1 := blk_cell hb 1
  have hc2 := blk_cell hb 2
  have hcv := own_string (P := Try.prog) Try.underlying33 Try.underlying5 Try.underlying9 ho
  have BK := Aside0.mk hb
  have HO := Aside0.mk ho
  clear hb ho hg
  by_cases h0 : n = 0
  · rw [if_pos h0]
    subst h0
    go_enter Try.func14, Try.ntmps14
    go_wp2
    go_ret
    exact ⟨rfl, Below.refl _ _⟩
  · rw [if_neg h0]
    have d0 : (n == 0) = false := beq_eq_false_iff_ne.mpr h0
    have lw : IntKind.u8.wrap last = last := by rw [IntKind.wrap_u8]; omega
    have hA := own_string (P := Try.prog) Try.underlying33 Try.underlying5 Try.underlying9 (HO.out.alloc (.cells #[.int .u8 last] 5))
    have hF : (w.alloc (.cells #[.int .u8 last] 5)).ownsRow 0 5 1 (.slice (some ⟨w.heap.size, 0, none⟩) 1 1) 1 (nums .u8 [last]) := ⟨rfl, .inr ⟨w.heap.size, 1, #[.int .u8 last], rfl, Nat.zero_le _, heap_alloc_new w _, Nat.le_refl _, by decide, rfl, rfl⟩⟩
    have hB2 := own_string (P := Try.prog) Try.underlying33 Try.underlying5 Try.underlying9 hF
    have hS : strOfNums B ++ strOfNums [last] = strOfNums (B ++ [last]) := ByteArray.ext (by simp [strOfNums, ByteArray.data_append])
    have hA2 : (convert 33 9 v).run Try.prog (w.alloc (.cells #[.int .u8 last] 5)).drew = .ok (.string (strOfNums B)) (w.alloc (.cells #[.int .u8 last] 5)).drew := own_string (P := Try.prog) Try.underlying33 Try.underlying5 Try.underlying9 (show (w.alloc (.cells #[.int .u8 last] 5)).drew.ownsRow w0.heap.size 5 1 v B.length (nums .u8 B) from HO.out.alloc _)
    have hA3 : (convert 33 9 v).run Try.prog w.drew = .ok (.string (strOfNums B)) w.drew := own_string (P := Try.prog) Try.underlying33 Try.underlying5 Try.underlying9 (show w.drew.ownsRow w0.heap.size 5 1 v B.length (nums .u8 B) from HO.out)
    have hB3 : (convert 33 9 (.slice (some ⟨w.heap.size, 0, none⟩) 1 1)).run Try.prog (w.alloc (.cells #[.int .u8 last] 5)).drew = .ok (.string (strOfNums [last])) (w.alloc (.cells #[.int .u8 last] 5)).drew := own_string (P := Try.prog) Try.underlying33 Try.underlying5 Try.underlying9 (show (w.alloc (.cells #[.int .u8 last] 5)).drew.ownsRow 0 5 1 (.slice (some ⟨w.heap.size, 0, none⟩) 1 1) 1 (nums .u8 [last]) from hF)
    clear hF
    have hz : ¬ 9223372036854775807 < (strOfNums B).size + (strOfNums [last]).size := by simp [strOfNums, ByteArray.size]; omega
    replace hc0 : w.cell? ⟨g, 0, none⟩ = some v := hc0.trans rfl
    replace hc1 : w.cell? ⟨g, 1, none⟩ = some (.int .u64 last) := hc1.trans rfl
    have ka0 : (w.alloc (.cells #[.int .u8 last] 5)).cell? ⟨g, 0, none⟩ = some v := (blk_cell (blk_alloc BK.out _) 0).trans rfl
    have ka1 : (w.alloc (.cells #[.int .u8 last] 5)).cell? ⟨g, 1, none⟩ = some (.int .u64 last) := (blk_cell (blk_alloc BK.out _) 1).trans rfl
    go_enter Try.func14, Try.ntmps14
    go_wp2
    go_region
    all_goals
      go_wp2
      go_ret
      refine ⟨?_, ?_⟩
      · rfl
      · repeat (first | exact Below.refl _ _ | apply below_drew1 | apply below_alloc)

end Go.Proofs.Ytiemjhoadobigaa.XPrefixReads
