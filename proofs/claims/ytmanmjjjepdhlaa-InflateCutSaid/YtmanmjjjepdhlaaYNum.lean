/- bits: writers and numbers. It has no conditions. -/
import Derived.Test.YtmanmjjjepdhlaaXInflateAnyx
import Derived.BigRegion
import Derived.RegionTactic
import Derived.ChangeAlike
import Derived.Deep.RegionWith
import Derived.Deep.RegionLaw
import Derived.Laws.Tables
import Derived.Deep.QuietTactic
import Derived.BigQuiet
import Derived.Deep.RegionHeld3
import Derived.Deep.AppendLies
import Derived.Deep.DrawnRows
import Derived.Laws.CopyOwn
import Derived.Deep.MidRow
import Derived.Laws.ResultCell
import Derived.ChangeKeysEq
import Derived.Laws.BitsAllLaws
namespace Go.Proofs.Ytmanmjjjepdhlaa.XInflateAny
set_option linter.unusedVariables false
set_option linter.unusedSimpArgs false
open Go.RowKit Go.Proofs.YtmanmjjjepdhlaaW.PrintWords Go.Proofs.YtmanmjjjepdhlaaW.PrintLast Go.Proofs.YtmanmjjjepdhlaaW.PrintMore

attribute [local go_sem] max2_int min2_int max_two min_two max_three min_three max_four min_four

/-- A writer at block g of W; its bytes are the call's own. -/
def IsW (w0 W : World) (g : Nat) (v : Value) (B : List Int) (last n : Int) : Prop :=
  W.heap[g]? = some (.cells #[v, .int .u64 last, .int .i64 n] 118 (0, 0)) ∧ w0.heap.size ≤ g ∧ W.ownsRow w0.heap.size 5 1 v B.length (encs (Value.int .u8) B)

theorem own_ne {W : World} {g base e : Nat} {cs : Array Value} {v : Value} {n : Nat} {xs : List Value} {t : TypeId} (hb : W.heap[g]? = some (.cells cs t (0, 0))) (ho : W.ownsRow base e 1 v n xs) (hne : e ≠ t) : v.ownBlock ≠ some g := by
  obtain ⟨_, h⟩ := ho
  rcases h with ⟨rfl, _⟩ | ⟨k, cap, cur, rfl, _, hk, _⟩
  · simp [Value.ownBlock]
  · intro e2
    injection e2 with e2
    have e3 : k = g := e2
    subst e3
    rw [hb] at hk
    injection hk with hk
    injection hk with _ ht
    exact hne ht.symm

theorem own_set {W : World} {g base e n : Nat} {v : Value} {xs : List Value} (hne : v.ownBlock ≠ some g) (ho : W.ownsRow base e 1 v n xs) (j : Nat) (u : Value) : (W.setCell ⟨g, j, none⟩ u).ownsRow base e 1 v n xs :=
  KeepBut.own ((KeepBut.refl W g none).set_ j u) ho hne (by cases v.ownBlock <;> simp)
theorem IsW.ne {w0 W : World} {g : Nat} {v : Value} {B : List Int} {last n : Int} (h : IsW w0 W g v B last n) : v.ownBlock ≠ some g := own_ne h.1 h.2.2 (by decide)
theorem IsW.set1 {w0 W : World} {g : Nat} {v : Value} {B : List Int} {last n : Int} (h : IsW w0 W g v B last n) (x : Int) : IsW w0 (W.setCell ⟨g, 1, none⟩ (.int .u64 x)) g v B x n := ⟨by simpa using blk_set h.1 1 (.int .u64 x), h.2.1, own_set h.ne h.2.2 _ _⟩
theorem IsW.set2 {w0 W : World} {g : Nat} {v : Value} {B : List Int} {last n : Int} (h : IsW w0 W g v B last n) (x : Int) : IsW w0 (W.setCell ⟨g, 2, none⟩ (.int .i64 x)) g v B last x := ⟨by simpa using blk_set h.1 2 (.int .i64 x), h.2.1, own_set h.ne h.2.2 _ _⟩
theorem IsW.drewN {w0 W : World} {g : Nat} {v : Value} {B : List Int} {last n : Int} (h : IsW w0 W g v B last n) (m : Nat) : IsW w0 (W.drewN m) g v B last n := h

/-- Whole bytes out of a number's bits, the lowest first, k at most. -/
def fl : Nat → List Int → Int → Int → List Int × Int × Int
  | 0, B, T, n => (B, T, n)
  | k + 1, B, T, n => if 8 ≤ n then fl k (B ++ [T % 256]) (T / 256) (n - 8) else (B, T, n)

/-- What a writer's call leaves. -/
def PutPost (w0 w : World) (g : Nat) (v : Value) (r : List Int × Int × Int) (w' : World) : Prop :=
  ∃ v', IsW w0 w' g v' r.1 r.2.1 r.2.2 ∧ Below w0.heap.size w0 w' ∧ KeepBut w w' g v.ownBlock ∧ (v'.ownBlock = v.ownBlock ∨ ∃ b, v'.ownBlock = some b ∧ w.heap.size ≤ b)

theorem IsW.set0 {w0 W : World} {g : Nat} {v v1 : Value} {B : List Int} {last n : Int} {m : Nat} {xs : List Value} (hb : W.heap[g]? = some (.cells #[v, .int .u64 last, .int .i64 n] 118 (0, 0))) (hg : w0.heap.size ≤ g) (ho : W.ownsRow w0.heap.size 5 1 v1 m xs) (hm : B.length = m) (hx : encs (Value.int .u8) B = xs) : IsW w0 (W.setCell ⟨g, 0, none⟩ v1) g v1 B last n := by
  subst hm hx
  exact ⟨by simpa using blk_set hb 0 v1, hg, own_set (own_ne hb ho (by decide)) ho _ _⟩
theorem keep_alloc2 {w W : World} {g : Nat} {row : Option Nat} (h : KeepBut w W g row) (o : Obj) : KeepBut w (W.alloc o) g row := h.trans (KeepBut.of_grown (World.grownBy_alloc W o row) g) (.inl rfl)
theorem own_alt {w wr : World} {v v' : Value} {gg : Nat} (hs : w.heap.size ≤ wr.heap.size) (hv : v'.ownBlock = v.ownBlock ∨ ∃ b, v'.ownBlock = some b ∧ w.heap.size ≤ b) (hat : v'.ownBlock = some gg ∨ gg = wr.heap.size + 1) {n c : Nat} : (Value.slice (some ⟨gg, 0, none⟩) n c).ownBlock = v.ownBlock ∨ ∃ b, (Value.slice (some ⟨gg, 0, none⟩) n c).ownBlock = some b ∧ w.heap.size ≤ b := by
  rcases hat with hat | hat
  · have : (Value.slice (some ⟨gg, 0, none⟩) n c).ownBlock = v'.ownBlock := hat.symm
    rw [this]
    exact hv
  · exact .inr ⟨gg, rfl, by omega⟩


theorem IsW.below {w0 W W1 : World} {g : Nat} {v : Value} {B : List Int} {last n : Int} (h : IsW w0 W g v B last n) (hb : Below W.heap.size W W1) : IsW w0 W1 g v B last n :=
  ⟨blk_below h.1 hb, h.2.1, own_move h.2.2 (fun k hk => hb.block k (h.2.2.lt k hk).2)⟩
theorem IsW.keep {w0 W W1 : World} {g g' : Nat} {v : Value} {B : List Int} {last n : Int} {cs : Array Value} {t : TypeId} (h : IsW w0 W g v B last n) (hk : KeepBut W W1 g' none) (h2 : W.heap[g']? = some (.cells cs t (0, 0))) (ht : t ≠ 118) (ht5 : 5 ≠ t) : IsW w0 W1 g v B last n :=
  ⟨hk.blk h.1 (blk_ne h.1 h2 (fun e => ht e.symm)) (by simp), h.2.1, hk.own h.2.2 (own_ne h2 h.2.2 ht5) (by cases v.ownBlock <;> simp)⟩
set_option maxHeartbeats 1600000 in
set_option maxRecDepth 100000 in
theorem put_walk (g : Nat) (v : Value) (B : List Int) (last n : Int) (x N : Int) (M T : Int) (w0 w : World) (hI : IsW w0 w g v B last n) (hB : Below w0.heap.size w0 w)
    (hn0 : 0 ≤ n) (hn8 : n < 8) (hM : M = if 32 < (if N < 0 then 0 else N) then 32 else (if N < 0 then 0 else N))
    (hT : bits BinOp.or IntKind.u64 last (IntKind.u64.wrap (bits BinOp.and IntKind.u64 x (IntKind.u64.wrap (IntKind.u64.wrap (2 ^ M.toNat) - 1)) * 2 ^ n.toNat)) = T)
    (hx0 : 0 ≤ x) (hx1 : x < 4294967296) (hT0 : 0 ≤ T) (hT1 : T < 18446744073709551616) (hBl : B.length ≤ 1000000000) :
    Calls Try.prog 37 #[.pointer (some ⟨g, 0, none⟩), .int .u32 x, .int .i64 N] w fun e w' => e = .returned (.tuple #[]) ∧ PutPost w0 w g v (fl 5 B T (n + M)) w' := by
  obtain ⟨hb, hg, ho⟩ := hI
  obtain ⟨i0, hi0, hz0, hz1, hz2⟩ := info_parts info5
  have hc1 := blk_cell hb 1
  have hc2 := blk_cell hb 2
  have hf1 := blk_frozen hb 1
  have hf2 := blk_frozen hb 2
  obtain ⟨M1, hM1⟩ : ∃ M : Int, (if N < 0 then 0 else N) = M := ⟨_, rfl⟩
  rw [hM1] at hM
  replace hM := hM.symm
  have q0 : 0 ≤ M := by rw [← hM, ← hM1]; split <;> split <;> omega
  have q1 : M ≤ 32 := by rw [← hM]; split <;> omega
  have p0 : ¬ M < 0 := by omega
  have p1 : ¬ n < 0 := by omega
  have p2 : IntKind.i64.wrap (n + M) = n + M := by rw [i64_w]; unfold wrap64; omega
  have HG := Aside0.mk hg
  have BK := Aside0.mk hb
  have HO := Aside0.mk ho
  have HB := Aside0.mk hB
  clear hb ho hB hg
  go_enter Try.func37, Try.ntmps37
  go_wp2
  go_region
  go_wp2_with fail
  go_loopg [] 5 (fun kq w' => ∃ (v' : Value) (B' : List Int) (T' n' : Int), Aside0 (IsW w0 w' g v' B' T' n') ∧ Aside0 (Below w0.heap.size w0 w') ∧ Aside0 (KeepBut w w' g v.ownBlock) ∧ Aside0 (v'.ownBlock = v.ownBlock ∨ ∃ b, v'.ownBlock = some b ∧ w.heap.size ≤ b) ∧ Aside0 (fl kq B' T' n' = fl 5 B T (n + M)) ∧ Aside0 (0 ≤ T' ∧ T' < 18446744073709551616 ∧ 0 ≤ n' ∧ n' < 8 * kq ∧ B'.length + kq ≤ B.length + 5 ∧ kq ≤ 5))
  case atStart =>
    exact ⟨v, B, T, n + M, ⟨IsW.set2 (IsW.set1 ⟨BK.out, HG.out, HO.out⟩ T) (n + M)⟩, ⟨below_drew1 (below_set (below_set HB.out HG.out) HG.out)⟩, ⟨((KeepBut.refl w g _).set_ _ _).set_ _ _⟩, ⟨.inl rfl⟩, ⟨rfl⟩, ⟨hT0, hT1, by omega, by omega, by omega, by omega⟩⟩
  case round =>
    clear BK HO HB hc1 hc2 hf1 hf2 hT p2
    obtain ⟨v', B', T', n', HI, HB, HK, HV, HF, HR⟩ := hrel
    obtain ⟨r0, r1, r2, r3, r4, r5⟩ := HR.out
    clear HR
    cases gk with
    | zero => exact absurd r3 (by omega)
    | succ k1 =>
      have hc1 := blk_cell HI.out.1 1
      have hc2 := blk_cell HI.out.1 2
      have hf1 := blk_frozen HI.out.1 1
      have hf2 := blk_frozen HI.out.1 2
      by_cases h8 : 8 ≤ n'
      · have d0 : decide (8 ≤ n') = true := decide_eq_true h8
        have e0 : IntKind.u8.wrap T' = T' % 256 := rfl
        go_wp2_with fail
        have hc0 : wr.cell? ⟨g, 0, none⟩ = some v' := (blk_cell HI.out.1 0).trans rfl
        replace hc1 : wr.cell? ⟨g, 1, none⟩ = some (.int .u64 T') := hc1.trans rfl
        have hne := Aside0.mk (own_ne HI.out.1 HI.out.2.2 (by decide))
        have hlt := blk_lt HI.out.1
        have hne0 := World.new_ne wr ⟨g, 0, none⟩ hc0
        have hne1 := World.new_ne wr ⟨g, 1, none⟩ hc1
        go_region_law
          ((refine step_append_lies _ (by rfl) _ _ _ (by rfl) w0.heap.size 5 i0 _ 1 1 Try.underlying52 hi0 hz0 hz1 hz2 rfl (by omega) v' B'.length (encs (Value.int .u8) B') (by rfl) ((HI.out.2.2.alloc _).drew)
              ⟨wr.heap.size, 0, none⟩ 1 1 [.int .u8 (T' % 256)] (by rfl) (by rfl) (World.news_of_block (cs := #[.int .u8 (T' % 256)]) (t := 5) (fr := (0, 0)) (heap_alloc_new wr _)) (by simp [Value.oneCell'])
              (by omega) (by simp only [maxLen]; omega) (by omega) (by simp; have := below_size HB.out; omega) (wr.heap.size + 1) (by simp) ?_; intro gg cap w1 hown1 hgrow hat hlt1; have BK1 := Aside0.mk (show w1.heap[g]? = some (.cells #[v', .int .u64 T', .int .i64 n'] 118 (0, 0)) from (hgrow.block g (by simp; omega) (fun e => hne.out e.symm)).trans (blk_alloc HI.out.1 _)); have HB1 := Aside0.mk (show Below w0.heap.size w0 w1 from Below.grown (below_drew1 (below_alloc HB.out _)) hgrow (by simp; have := below_size HB.out; omega) (own_base HI.out.2.2)); have HK1 := Aside0.mk (show KeepBut w w1 g v.ownBlock from KeepBut.trans (keep_drew (keep_alloc2 HK.out _)) (KeepBut.of_grown hgrow g) HV.out); have HV1 := Aside0.mk (own_alt HK.out.1 HV.out hat (n := B'.length + 1) (c := cap)); have HO1 := Aside0.mk hown1; clear hown1 hgrow hat; have hk0 : w1.cell? ⟨g, 0, none⟩ = some v' := (blk_cell BK1.out 0).trans rfl; have hk1 : w1.cell? ⟨g, 1, none⟩ = some (.int .u64 T') := (blk_cell BK1.out 1).trans rfl; have hk2 : w1.cell? ⟨g, 2, none⟩ = some (.int .i64 n') := (blk_cell BK1.out 2).trans rfl; have hz_0 := blk_frozen BK1.out 0; have hz_1 := blk_frozen BK1.out 1; have hz_2 := blk_frozen BK1.out 2))
        all_goals go_wp2_with fail
        all_goals
          go_roundg k1
          case measure => omega
          case rel => exact ⟨_, B' ++ [T' % 256], T' / 256, n' - 8, ⟨IsW.set2 (IsW.set1 (IsW.set0 BK1.out HG.out HO1.out (by simp) (by rw [encs_append]; rfl)) _) _⟩, ⟨by repeat (first | exact HB1.out | refine below_set ?_ HG.out | apply below_drew1)⟩, ⟨((HK1.out.set_ _ _).set_ _ _).set_ _ _⟩, HV1, ⟨by rw [← HF.out, fl, if_pos h8]⟩, ⟨by omega, by omega, by omega, by omega, by simp; omega, by omega⟩⟩
      · have d0 : decide (8 ≤ n') = false := decide_eq_false h8
        go_wp2
        go_end0
        have hf : fl (k1 + 1) B' T' n' = (B', T', n') := by rw [fl, if_neg (by omega)]
        exact ⟨rfl, by rw [← HF.out, hf]; exact ⟨v', HI.out, HB.out, HK.out, HV.out⟩⟩

set_option maxHeartbeats 800000 in
set_option maxRecDepth 100000 in
theorem new_walk (w0 w : World) (hB : Below w0.heap.size w0 w) :
    Calls Try.prog 33 #[] w fun e w' => ∃ g_ : Nat, e = .returned (.pointer (some ⟨g_, 0, none⟩)) ∧ IsW w0 w' g_ (.slice none 0 0) [] 0 0 ∧ w.heap.size ≤ g_ ∧ Below w.heap.size w w' := by
  have hu118 := Try.underlying118
  have HB := Aside0.mk hB
  clear hB
  go_enter Try.func33, Try.ntmps33
  go_wp2_with (first | ((with_reducible refine gate_dst (N := 2) rfl ?_); refine box_event ?hg (N := 2) ?hd (cs := #[.slice none 0 0, .int .u64 0, .int .i64 0]) (t := 118) ?hr ?_; (case hd => rfl); (case hg => rfl); (case hr => first | (go_simp; done) | (go_simp; rfl)); intro gb hg w1 hbox hb; have BK := Aside0.mk hbox; have HB1 := Aside0.mk hb; have GE := Aside0.mk (show w.heap.size ≤ gb from Nat.le_of_eq hg.symm); clear hg hbox hb))
  go_ret
  exact ⟨_, rfl, ⟨BK.out, Nat.le_trans (below_size HB.out) GE.out, World.ownsRow_nil _ _ _ _⟩, GE.out, HB1.out⟩

set_option maxHeartbeats 1600000 in
set_option maxRecDepth 100000 in
theorem text_walk (g : Nat) (v : Value) (B : List Int) (last n : Int) (w0 w : World) (hI : IsW w0 w g v B last n) (hn0 : 0 ≤ n) (hn8 : n < 8) (hT0 : 0 ≤ last) (hT1 : last < 256) (hBl : B.length ≤ 1000000000) :
    Calls Try.prog 36 #[.pointer (some ⟨g, 0, none⟩)] w fun e w' => e = .returned (.string (strOfNums (if n = 0 then B else B ++ [last]))) ∧ Below w.heap.size w w' := by
  obtain ⟨hb, hg, ho⟩ := hI
  have hc0 := blk_cell hb 0
  have hc1 := blk_cell hb 1
  have hc2 := blk_cell hb 2
  have hcv := own_string (P := Try.prog) Try.underlying52 Try.underlying5 Try.underlying9 ho
  have BK := Aside0.mk hb
  have HO := Aside0.mk ho
  clear hb ho hg
  by_cases h0 : n = 0
  · rw [if_pos h0]
    subst h0
    go_enter Try.func36, Try.ntmps36
    go_wp2
    go_ret
    exact ⟨rfl, Below.refl _ _⟩
  · rw [if_neg h0]
    have d0 : (n == 0) = false := beq_eq_false_iff_ne.mpr h0
    have lw : IntKind.u8.wrap last = last := by rw [IntKind.wrap_u8]; omega
    have hA := own_string (P := Try.prog) Try.underlying52 Try.underlying5 Try.underlying9 (HO.out.alloc (.cells #[.int .u8 last] 5))
    have hF : (w.alloc (.cells #[.int .u8 last] 5)).ownsRow 0 5 1 (.slice (some ⟨w.heap.size, 0, none⟩) 1 1) 1 (nums .u8 [last]) := ⟨rfl, .inr ⟨w.heap.size, 1, #[.int .u8 last], rfl, Nat.zero_le _, heap_alloc_new w _, Nat.le_refl _, by decide, rfl, rfl⟩⟩
    have hB2 := own_string (P := Try.prog) Try.underlying52 Try.underlying5 Try.underlying9 hF
    have hS : strOfNums B ++ strOfNums [last] = strOfNums (B ++ [last]) := ByteArray.ext (by simp [strOfNums, ByteArray.data_append])
    have hA2 : (convert 52 9 v).run Try.prog (w.alloc (.cells #[.int .u8 last] 5)).drew = .ok (.string (strOfNums B)) (w.alloc (.cells #[.int .u8 last] 5)).drew := own_string (P := Try.prog) Try.underlying52 Try.underlying5 Try.underlying9 (show (w.alloc (.cells #[.int .u8 last] 5)).drew.ownsRow w0.heap.size 5 1 v B.length (nums .u8 B) from HO.out.alloc _)
    have hA3 : (convert 52 9 v).run Try.prog w.drew = .ok (.string (strOfNums B)) w.drew := own_string (P := Try.prog) Try.underlying52 Try.underlying5 Try.underlying9 (show w.drew.ownsRow w0.heap.size 5 1 v B.length (nums .u8 B) from HO.out)
    have hB3 : (convert 52 9 (.slice (some ⟨w.heap.size, 0, none⟩) 1 1)).run Try.prog (w.alloc (.cells #[.int .u8 last] 5)).drew = .ok (.string (strOfNums [last])) (w.alloc (.cells #[.int .u8 last] 5)).drew := own_string (P := Try.prog) Try.underlying52 Try.underlying5 Try.underlying9 (show (w.alloc (.cells #[.int .u8 last] 5)).drew.ownsRow 0 5 1 (.slice (some ⟨w.heap.size, 0, none⟩) 1 1) 1 (nums .u8 [last]) from hF)
    clear hF
    have hz : ¬ 9223372036854775807 < (strOfNums B).size + (strOfNums [last]).size := by simp [strOfNums, ByteArray.size]; omega
    replace hc0 : w.cell? ⟨g, 0, none⟩ = some v := hc0.trans rfl
    replace hc1 : w.cell? ⟨g, 1, none⟩ = some (.int .u64 last) := hc1.trans rfl
    have ka0 : (w.alloc (.cells #[.int .u8 last] 5)).cell? ⟨g, 0, none⟩ = some v := (blk_cell (blk_alloc BK.out _) 0).trans rfl
    have ka1 : (w.alloc (.cells #[.int .u8 last] 5)).cell? ⟨g, 1, none⟩ = some (.int .u64 last) := (blk_cell (blk_alloc BK.out _) 1).trans rfl
    go_enter Try.func36, Try.ntmps36
    go_wp2
    go_region
    all_goals
      go_wp2
      go_ret
      refine ⟨?_, ?_⟩
      · rfl
      · repeat (first | exact Below.refl _ _ | apply below_drew1 | apply below_alloc)



/-- The number that bytes are, the lowest first. -/
def NB : List Int → Int
  | [] => 0
  | b :: L => b + 256 * NB L
theorem NB_snoc (B : List Int) (t : Int) : NB (B ++ [t]) = NB B + t * 256 ^ B.length := by
  induction B with
  | nil => simp [NB]
  | cons b L ih =>
    simp only [List.cons_append, NB, ih, List.length_cons, Int.pow_succ]
    rw [Int.mul_add, Int.add_assoc]
    congr 2
    rw [Int.mul_left_comm, Int.mul_comm 256]
/-- A writer holds the number Z, of t bits. -/
def Inv (B : List Int) (last n Z : Int) (t : Nat) : Prop :=
  0 ≤ n ∧ n < 8 ∧ 0 ≤ last ∧ last < 2 ^ n.toNat ∧ NB B + last * 256 ^ B.length = Z ∧ 8 * B.length + n.toNat = t ∧ ∀ b ∈ B, 0 ≤ b ∧ b < 256

theorem fl_inv : ∀ (k : Nat) (B : List Int) (T : Int) (m : Nat), 0 ≤ T → T < 2 ^ m → m < 8 * (k + 1) → (∀ b ∈ B, 0 ≤ b ∧ b < 256) →
    Inv (fl k B T (m : Int)).1 (fl k B T (m : Int)).2.1 (fl k B T (m : Int)).2.2 (NB B + T * 256 ^ B.length) (8 * B.length + m)
  | 0, B, T, m, h0, h1, h2, hb => by
    rw [fl]
    exact ⟨by show (0 : Int) ≤ (m : Int); omega, by show (m : Int) < 8; omega, h0, by show T < 2 ^ (m : Int).toNat; rw [Int.toNat_natCast]; exact h1, rfl, by show _ + (m : Int).toNat = _; rw [Int.toNat_natCast], hb⟩
  | k + 1, B, T, m, h0, h1, h2, hb => by
    rw [fl]
    by_cases h8 : 8 ≤ (m : Int)
    · rw [if_pos h8]
      obtain ⟨q, rfl⟩ : ∃ q, m = q + 8 := ⟨m - 8, by omega⟩
      have hp : (2 : Int) ^ (q + 8) = 256 * 2 ^ q := by rw [Int.pow_add, Int.mul_comm]; rfl
      rw [hp] at h1
      have ih := fl_inv k (B ++ [T % 256]) (T / 256) q (by omega) (by omega) (by omega) (fun b hb2 => by
        rcases List.mem_append.1 hb2 with h | h
        · exact hb b h
        · simp at h; omega)
      have e1 : ((q + 8 : Nat) : Int) - 8 = (q : Int) := by omega
      rw [e1]
      have e2 : NB (B ++ [T % 256]) + T / 256 * 256 ^ (B ++ [T % 256]).length = NB B + T * 256 ^ B.length := by
        rw [NB_snoc, List.length_append, List.length_singleton, Int.pow_succ, Int.add_assoc]
        congr 1
        rw [Int.mul_comm (256 ^ B.length) 256, ← Int.mul_assoc, ← Int.add_mul]
        congr 1
        omega
      have e3 : 8 * (B ++ [T % 256]).length + q = 8 * B.length + (q + 8) := by simp; omega
      rw [e2, e3] at ih
      exact ih
    · rw [if_neg h8]
      exact ⟨by show (0 : Int) ≤ (m : Int); omega, by show (m : Int) < 8; omega, h0, by show T < 2 ^ (m : Int).toNat; rw [Int.toNat_natCast]; exact h1, rfl, by show _ + (m : Int).toNat = _; rw [Int.toNat_natCast], hb⟩

theorem or_add (a c n : Nat) (ha : a < 2 ^ n) : a ||| (c * 2 ^ n) = a + c * 2 ^ n := by
  rw [Nat.or_comm, Nat.mul_comm, ← Nat.two_pow_add_eq_or_of_lt ha, Nat.add_comm]
theorem wrap64u (x : Nat) (h : x < 18446744073709551616) : IntKind.u64.wrap (x : Int) = x := by rw [IntKind.wrap_u64]; omega
theorem putT (last x n M : Nat) (hl : last < 2 ^ n) (hx : x < 4294967296) (hn : n < 8) (hM : M ≤ 32) :
    bits BinOp.or IntKind.u64 (last : Int) (IntKind.u64.wrap (bits BinOp.and IntKind.u64 (x : Int) (IntKind.u64.wrap (IntKind.u64.wrap (2 ^ M) - 1)) * 2 ^ n)) = ((last + (x % 2 ^ M) * 2 ^ n : Nat) : Int) := by
  have hM2 : 2 ^ M ≤ 2 ^ 32 := Nat.pow_le_pow_right (by omega) hM
  have hM3 : 0 < 2 ^ M := Nat.two_pow_pos M
  have hn2 : 2 ^ n ≤ 2 ^ 7 := Nat.pow_le_pow_right (by omega) (by omega)
  have e1 : (2 : Int) ^ M = ((2 ^ M : Nat) : Int) := by simp
  have e2 : (2 : Int) ^ n = ((2 ^ n : Nat) : Int) := by simp
  rw [e1, e2, wrap64u _ (by omega), show ((2 ^ M : Nat) : Int) - 1 = ((2 ^ M - 1 : Nat) : Int) from by omega, wrap64u _ (by omega), u64_and_nat _ _ (by omega) (by omega), Nat.and_two_pow_sub_one_eq_mod]
  have hm : x % 2 ^ M < 2 ^ 32 := Nat.lt_of_lt_of_le (Nat.mod_lt _ hM3) hM2
  have hml : (x % 2 ^ M) * 2 ^ n < 2 ^ 39 := by
    calc (x % 2 ^ M) * 2 ^ n ≤ (2 ^ 32 - 1) * 2 ^ 7 := Nat.mul_le_mul (by omega) hn2
      _ < 2 ^ 39 := by decide
  rw [show ((x % 2 ^ M : Nat) : Int) * ((2 ^ n : Nat) : Int) = (((x % 2 ^ M) * 2 ^ n : Nat) : Int) from by rw [Int.natCast_mul], wrap64u _ (by omega), u64_or_nat _ _ (by omega) (by omega), or_add _ _ _ hl]
/-- What a Put leaves holds the number with the new bits above. -/
theorem put_inv (B : List Int) (last n Z : Int) (t : Nat) (x : Int) (M : Nat) (h : Inv B last n Z t) (hx0 : 0 ≤ x) (hx1 : x < 4294967296) (hM : M ≤ 32) :
    bits BinOp.or IntKind.u64 last (IntKind.u64.wrap (bits BinOp.and IntKind.u64 x (IntKind.u64.wrap (IntKind.u64.wrap (2 ^ M) - 1)) * 2 ^ n.toNat)) = last + (x % 2 ^ M) * 2 ^ n.toNat ∧
    0 ≤ last + (x % 2 ^ M) * 2 ^ n.toNat ∧ last + (x % 2 ^ M) * 2 ^ n.toNat < 18446744073709551616 ∧
    Inv (fl 5 B (last + (x % 2 ^ M) * 2 ^ n.toNat) (n + M)).1 (fl 5 B (last + (x % 2 ^ M) * 2 ^ n.toNat) (n + M)).2.1 (fl 5 B (last + (x % 2 ^ M) * 2 ^ n.toNat) (n + M)).2.2 (Z + (x % 2 ^ M) * 2 ^ t) (t + M) := by
  obtain ⟨h0, h1, h2, h3, h4, h5, h6⟩ := h
  obtain ⟨k, rfl⟩ : ∃ k : Nat, n = k := ⟨n.toNat, by omega⟩
  obtain ⟨L, rfl⟩ : ∃ k : Nat, last = k := ⟨last.toNat, by omega⟩
  obtain ⟨X, rfl⟩ : ∃ k : Nat, x = k := ⟨x.toNat, by omega⟩
  rw [Int.toNat_natCast] at h3 h5 ⊢
  have hL : L < 2 ^ k := by
    have : ((L : Nat) : Int) < ((2 ^ k : Nat) : Int) := by simpa using h3
    omega
  have hp := putT L X k M hL (by omega) (by omega) hM
  have e1 : ((L + (X % 2 ^ M) * 2 ^ k : Nat) : Int) = (L : Int) + (X : Int) % 2 ^ M * 2 ^ k := by simp
  have hb : L + (X % 2 ^ M) * 2 ^ k < 2 ^ (k + M) := by
    have hm : X % 2 ^ M < 2 ^ M := Nat.mod_lt _ (Nat.two_pow_pos M)
    calc L + (X % 2 ^ M) * 2 ^ k < 2 ^ k + (X % 2 ^ M) * 2 ^ k := by omega
      _ = (X % 2 ^ M + 1) * 2 ^ k := by rw [Nat.add_mul, Nat.one_mul, Nat.add_comm]
      _ ≤ 2 ^ M * 2 ^ k := Nat.mul_le_mul_right _ hm
      _ = 2 ^ (k + M) := by rw [Nat.add_comm, Nat.pow_add]
  have hb2 : 2 ^ (k + M) ≤ 2 ^ 40 := Nat.pow_le_pow_right (by omega) (by omega)
  have hi := fl_inv 5 B ((L + (X % 2 ^ M) * 2 ^ k : Nat) : Int) (k + M) (by omega) (by have : ((L + (X % 2 ^ M) * 2 ^ k : Nat) : Int) < ((2 ^ (k + M) : Nat) : Int) := by omega
                                                                                       simpa using this) (by omega) h6
  rw [← e1]
  refine ⟨hp, by omega, by omega, ?_⟩
  have e2 : NB B + ((L + (X % 2 ^ M) * 2 ^ k : Nat) : Int) * 256 ^ B.length = Z + (X : Int) % 2 ^ M * 2 ^ t := by
    rw [e1, Int.add_mul, ← Int.add_assoc, h4, Int.mul_assoc, ← h5]
    congr 2
    rw [Nat.add_comm (8 * B.length) k, Int.pow_add, Int.pow_mul]
    rfl
  have e3 : 8 * B.length + (k + M) = t + M := by omega
  rw [e2, e3] at hi
  rw [show ((k : Nat) : Int) + ((M : Nat) : Int) = ((k + M : Nat) : Int) from by omega]
  exact hi

theorem w64 {x : Int} (h0 : -9223372036854775808 ≤ x) (h1 : x < 9223372036854775808) : wrap64 x = x := by unfold wrap64; omega
/-- One round of the reader's loop. -/
theorem read_step (Z : Nat) (j : Nat) (hj : j < 7) : (Go.bits .or .u64 ((Z % 256 ^ j : Nat) : Int) (shl .u64 (IntKind.u64.wrap ((Z / 256 ^ j % 256 : Nat) : Int)) ((8 * j : Nat) : Int))) = ((Z % 256 ^ (j + 1) : Nat) : Int) := by
  have h1 : Z / 256 ^ j % 256 < 256 := Nat.mod_lt _ (by decide)
  have e0 : (256 : Nat) ^ j = 2 ^ (8 * j) := by rw [Nat.pow_mul]
  have h2 : Z % 256 ^ j < 256 ^ j := Nat.mod_lt _ (Nat.pow_pos (by decide))
  have h3 : (2 : Nat) ^ (8 * j) ≤ 2 ^ 48 := Nat.pow_le_pow_right (by omega) (by omega)
  have h4 : (Z / 256 ^ j % 256) * 2 ^ (8 * j) < 2 ^ 56 := by
    calc (Z / 256 ^ j % 256) * 2 ^ (8 * j) ≤ 255 * 2 ^ 48 := Nat.mul_le_mul (by omega) h3
      _ < 2 ^ 56 := by decide
  have e1 : min ((8 * j : Nat) : Int).toNat IntKind.u64.bits = 8 * j := by
    have : IntKind.u64.bits = 64 := rfl
    rw [this, Int.toNat_natCast]; omega
  unfold shl
  rw [e1, wrap64u _ (by omega), show ((Z / 256 ^ j % 256 : Nat) : Int) * 2 ^ (8 * j) = (((Z / 256 ^ j % 256) * 2 ^ (8 * j) : Nat) : Int) from by simp, wrap64u _ (by omega), u64_or_nat _ _ (by omega) (by omega), or_add _ _ _ (by omega)]
  rw [Nat.pow_succ, Nat.mod_mul, ← e0, Nat.mul_comm (256 ^ j)]

theorem read_end (Z p n j : Nat) (hn : n ≤ 32) (hj : j ≤ 5) (hq : n + p % 8 ≤ 8 * j) : (Go.bits .and .u64 (shr .u64 ((Z / 256 ^ (p / 8) % 256 ^ j : Nat) : Int) ((p % 8 : Nat) : Int)) (IntKind.u64.wrap ((shl .u64 1 (n : Int)) - 1))) % 4294967296 = ((Z / 2 ^ p % 2 ^ n : Nat) : Int) := by
  have hb : IntKind.u64.bits = 64 := rfl
  have e1 : min ((n : Nat) : Int).toNat IntKind.u64.bits = n := by rw [hb, Int.toNat_natCast]; omega
  have e2 : min ((p % 8 : Nat) : Int).toNat IntKind.u64.bits = p % 8 := by rw [hb, Int.toNat_natCast]; omega
  have hn2 : 2 ^ n ≤ 2 ^ 32 := Nat.pow_le_pow_right (by omega) hn
  have hn3 : 0 < 2 ^ n := Nat.two_pow_pos n
  have e3 : shl .u64 1 (n : Int) = ((2 ^ n : Nat) : Int) := by
    unfold shl
    rw [e1, Int.one_mul, show (2 : Int) ^ n = ((2 ^ n : Nat) : Int) from by simp, wrap64u _ (by omega)]
  have e4 : shr .u64 ((Z / 256 ^ (p / 8) % 256 ^ j : Nat) : Int) ((p % 8 : Nat) : Int) = ((Z / 256 ^ (p / 8) % 256 ^ j / 2 ^ (p % 8) : Nat) : Int) := by
    unfold shr
    rw [e2]
    simp
  have h5 : Z / 256 ^ (p / 8) % 256 ^ j < 256 ^ j := Nat.mod_lt _ (Nat.pow_pos (by decide))
  have h6 : (256 : Nat) ^ j ≤ 256 ^ 5 := Nat.pow_le_pow_right (by omega) hj
  have h7 : Z / 256 ^ (p / 8) % 256 ^ j / 2 ^ (p % 8) ≤ Z / 256 ^ (p / 8) % 256 ^ j := Nat.div_le_self _ _
  have e5 : (256 : Nat) ^ j = 2 ^ (p % 8) * 2 ^ (8 * j - p % 8) := by rw [← Nat.pow_add, show p % 8 + (8 * j - p % 8) = 8 * j from by omega, Nat.pow_mul]
  have e6 : Z / 256 ^ (p / 8) / 2 ^ (p % 8) = Z / 2 ^ p := by
    rw [Nat.div_div_eq_div_mul, show (256 : Nat) ^ (p / 8) = 2 ^ (8 * (p / 8)) from by rw [Nat.pow_mul], ← Nat.pow_add, show 8 * (p / 8) + p % 8 = p from by omega]
  have e7 : Z / 256 ^ (p / 8) % 256 ^ j / 2 ^ (p % 8) % 2 ^ n = Z / 2 ^ p % 2 ^ n := by
    rw [e5, Nat.mod_mul_right_div_self, Nat.mod_mod_of_dvd _ (Nat.pow_dvd_pow 2 (by omega)), e6]
  rw [e3, e4, show ((2 ^ n : Nat) : Int) - 1 = ((2 ^ n - 1 : Nat) : Int) from by omega, wrap64u _ (by omega), u64_and_nat _ _ (by omega) (by omega), Nat.and_two_pow_sub_one_eq_mod, e7]
  have h8 : Z / 2 ^ p % 2 ^ n < 2 ^ n := Nat.mod_lt _ hn3
  omega
theorem read_l0 (S : ByteArray) (Z p n : Nat) (hn : n ≤ 32) (hp : p + n ≤ 8 * S.size) (hS : S.size ≤ 1000000) (hZ : ∀ i, i < S.size → bt S (i : Int) = ((Z / 256 ^ i % 256 : Nat) : Int)) :
    ∀ (d j : Nat), 6 - j = d → j ≤ 5 → (1 ≤ j → 8 * (j - 1) < n + p % 8) → Ev (fun k => bits_Reader_Bits.l0 k (n : Int) ((Z / 256 ^ (p / 8) % 256 ^ j : Nat) : Int) ((8 * j : Nat) : Int) ((p / 8 + j : Nat) : Int) S (p : Int) false) (((Z / 2 ^ p % 2 ^ n : Nat) : Int), S, ((p + n : Nat) : Int), false) := by
  intro d
  induction d with
  | zero => intro j hd hj; omega
  | succ d ih =>
    intro j hd hj hq
    have et : Int.tmod (p : Int) 8 = ((p % 8 : Nat) : Int) := by rw [Int.tmod_eq_emod_of_nonneg (by omega)]; omega
    by_cases hlt : 8 * j < n + p % 8
    · have hi : p / 8 + j < S.size := by omega
      have hz := hZ _ hi
      have e1 : Z / 256 ^ (p / 8 + j) % 256 = (Z / 256 ^ (p / 8)) / 256 ^ j % 256 := by rw [Nat.div_div_eq_div_mul, ← Nat.pow_add]
      refine Ev.step (fun k => ?_) (ih (j + 1) (by omega) (by omega) (fun _ => by simpa using hlt))
      simp only [bits_Reader_Bits.l0]
      rw [et, w64 (by omega) (by omega), if_pos (by omega), if_pos (by omega), if_pos (by omega), if_pos (by omega), hz, e1, read_step _ _ (by omega), w64 (by omega) (by omega), w64 (by omega) (by omega), show ((8 * j : Nat) : Int) + 8 = ((8 * (j + 1) : Nat) : Int) from by omega, show ((p / 8 + j : Nat) : Int) + 1 = ((p / 8 + (j + 1) : Nat) : Int) from by omega]
    · refine Ev.step (f := fun _ => some (((Z / 2 ^ p % 2 ^ n : Nat) : Int), S, ((p + n : Nat) : Int), false)) (fun k => ?_) (Ev.now _)
      simp only [bits_Reader_Bits.l0]
      rw [et, w64 (by omega) (by omega), if_neg (by omega), if_pos (by omega), if_pos (by omega), w64 (by omega) (by omega)]
      rw [read_end Z p n j hn hj (by omega), show (p : Int) + n = ((p + n : Nat) : Int) from by omega]
/-- What the reader answers. -/
theorem reads (S : ByteArray) (Z p n : Nat) (hn : n ≤ 32) (hp : p + n ≤ 8 * S.size) (hS : S.size ≤ 1000000) (hZ : ∀ i, i < S.size → bt S (i : Int) = ((Z / 256 ^ i % 256 : Nat) : Int)) :
    Ev (fun k => bits_Reader_Bits.f k S (p : Int) false (n : Int)) (((Z / 2 ^ p % 2 ^ n : Nat) : Int), S, ((p + n : Nat) : Int), false) := by
  have h := read_l0 S Z p n hn hp hS hZ 6 0 rfl (by omega) (fun h => by omega)
  have h0 : ((Z / 256 ^ (p / 8) % 256 ^ 0 : Nat) : Int) = 0 := by rw [Nat.pow_zero, Nat.mod_one]; rfl
  have e8 : wrap64 (Int.tdiv (p : Int) 8) = ((p / 8 + 0 : Nat) : Int) := by
    rw [Int.tdiv_eq_ediv_of_nonneg (by omega), w64 (by omega) (by omega)]; omega
  have hj : Ev (fun k => bits_Reader_Bits.j0 k (n : Int) false S (p : Int) false) (((Z / 2 ^ p % 2 ^ n : Nat) : Int), S, ((p + n : Nat) : Int), false) := by
    refine Ev.step (fun k => ?_) h
    simp only [bits_Reader_Bits.j0]
    rw [if_neg (by decide), e8, h0]
    rfl
  refine Ev.congr (fun k => ?_) hj
  unfold bits_Reader_Bits.f bits_Reader_live.f bits_Reader_Left.f
  have hd : decide ((n : Int) > wrap64 (wrap64 (8 * (S.size : Int)) - (p : Int))) = false := by
    rw [w64 (x := 8 * (S.size : Int)) (by omega) (by omega), w64 (by omega) (by omega)]
    exact decide_eq_false (by omega)
  simp only [Option.bind_some]
  rw [if_pos (by decide), if_neg (by omega), if_neg (by omega), hd]
/-! #### struct type 28: a deed -/
structure S28 where
  f0 : Int
  f1 : Int
  f2 : Int
  f3 : ByteArray
theorem NB_get : ∀ (X : List Int) (i : Nat), (∀ b ∈ X, 0 ≤ b ∧ b < 256) → i < X.length → X.getD i 0 = NB X / 256 ^ i % 256
  | [], i, _, h => by simp at h
  | b :: X, 0, hb, h => by
    have := hb b (List.mem_cons_self ..)
    simp only [NB, List.getD_cons_zero, Int.pow_zero, Int.ediv_one]
    omega
  | b :: X, i + 1, hb, h => by
    have h0 := hb b (List.mem_cons_self ..)
    have ih := NB_get X i (fun c hc => hb c (List.mem_cons_of_mem _ hc)) (by simpa using h)
    rw [List.getD_cons_succ, ih, NB, Int.pow_succ, Int.mul_comm (256 ^ i), Int.ediv_mul_of_nonneg (by omega), show (b + 256 * NB X) / 256 = NB X from by omega]
theorem NB_nonneg : ∀ (X : List Int), (∀ b ∈ X, 0 ≤ b ∧ b < 256) → 0 ≤ NB X
  | [], _ => by simp [NB]
  | b :: X, hb => by
    have h0 := hb b (List.mem_cons_self ..)
    have := NB_nonneg X (fun c hc => hb c (List.mem_cons_of_mem _ hc))
    rw [NB]; omega
theorem str_size (X : List Int) : (strOfNums X).size = X.length := by simp [strOfNums, ByteArray.size]
theorem str_get (X : List Int) (i : Nat) (h : i < X.length) (hb : ∀ b ∈ X, 0 ≤ b ∧ b < 256) : bt (strOfNums X) (i : Int) = X.getD i 0 := by
  have h1 : (i : Int).toNat < (strOfNums X).size := by rw [str_size, Int.toNat_natCast]; exact h
  have h2 := hb _ (List.getElem_mem h)
  unfold bt
  rw [dif_pos h1]
  have e : ((strOfNums X)[(i : Int).toNat]'h1) = UInt8.ofNat (X[i]).toNat := by simp [strOfNums, ByteArray.getElem_eq_getElem_data]
  rw [e, List.getD_eq_getElem?_getD, List.getElem?_eq_getElem h, Option.getD_some, UInt8.toNat_ofNat']
  omega
/-- A writer's text reads as the number that it holds. -/
theorem text_reads (B : List Int) (last n : Int) (Z t : Nat) (h : Inv B last n (Z : Int) t) :
    t ≤ 8 * (strOfNums (if n = 0 then B else B ++ [last])).size ∧ 8 * (strOfNums (if n = 0 then B else B ++ [last])).size < t + 8 ∧ ∀ i, i < (strOfNums (if n = 0 then B else B ++ [last])).size → bt (strOfNums (if n = 0 then B else B ++ [last])) (i : Int) = ((Z / 256 ^ i % 256 : Nat) : Int) := by
  obtain ⟨h0, h1, h2, h3, h4, h5, h6⟩ := h
  have key : ∀ X : List Int, (∀ b ∈ X, 0 ≤ b ∧ b < 256) → NB X = (Z : Int) → ∀ i, i < (strOfNums X).size → bt (strOfNums X) (i : Int) = ((Z / 256 ^ i % 256 : Nat) : Int) := by
    intro X hX hN i hi
    rw [str_size] at hi
    rw [str_get X i hi hX, NB_get X i hX hi, hN]
    simp
  by_cases hn : n = 0
  · rw [if_pos hn, str_size]
    subst hn
    have hl : last = 0 := by
      have : last < 1 := by simpa using h3
      omega
    subst hl
    have hN : NB B = (Z : Int) := by rw [← h4]; simp
    exact ⟨by simp at h5; omega, by simp at h5; omega, fun i hi => key B h6 hN i (by rw [str_size]; exact hi)⟩
  · rw [if_neg hn, str_size, List.length_append, List.length_singleton]
    have hl : last < 256 := by
      have : (2 : Int) ^ n.toNat ≤ 2 ^ 7 := by
        have h7 : (2 : Nat) ^ n.toNat ≤ 2 ^ 7 := Nat.pow_le_pow_right (by omega) (by omega)
        have : ((2 ^ n.toNat : Nat) : Int) ≤ ((2 ^ 7 : Nat) : Int) := by omega
        simpa using this
      omega
    refine ⟨by omega, by omega, fun i hi => key (B ++ [last]) (fun b hb => ?_) (by rw [NB_snoc]; exact h4) i (by rw [str_size, List.length_append, List.length_singleton]; exact hi)⟩
    rcases List.mem_append.1 hb with h | h
    · exact h6 b h
    · simp at h; omega



theorem mod_step (A m : Nat) : 2 * (A / 2 % 2 ^ m) + A % 2 = A % 2 ^ (m + 1) := by
  rw [Nat.pow_succ, Nat.mul_comm (2 ^ m), Nat.mod_mul]
  omega
theorem fails (S : ByteArray) (p : Nat) (n : Int) (hp : p ≤ 8 * S.size) (hS : S.size ≤ 1000000) (h : n < 0 ∨ 32 < n ∨ 8 * (S.size : Int) - p < n) :
    Ev (fun k => bits_Reader_Bits.f k S (p : Int) false n) ((0 : Int), S, (p : Int), true) := by
  have hj : Ev (fun k => bits_Reader_Bits.j0 k n true S (p : Int) false) ((0 : Int), S, (p : Int), true) := by
    refine Ev.step (f := fun _ => some ((0 : Int), S, (p : Int), true)) (fun k => ?_) (Ev.now _)
    simp only [bits_Reader_Bits.j0]
    rw [if_pos trivial]
  refine Ev.congr (fun k => ?_) hj
  unfold bits_Reader_Bits.f bits_Reader_live.f bits_Reader_Left.f
  simp only [Option.bind_some]
  rw [if_pos (by decide)]
  by_cases h1 : n < 0
  · rw [if_pos h1]
  · rw [if_neg h1]
    by_cases h2 : n > 32
    · rw [if_pos h2]
    · rw [if_neg h2, w64 (x := 8 * (S.size : Int)) (by omega) (by omega), w64 (by omega) (by omega)]
      have h3 : 8 * (S.size : Int) - p < n := by omega
      rw [decide_eq_true (show n > 8 * (S.size : Int) - (p : Int) from h3)]
theorem dead (S : ByteArray) (p n : Int) : Ev (fun k => bits_Reader_Bits.f k S p true n) ((0 : Int), S, p, true) := by
  refine Ev.congr (f := fun _ => some ((0 : Int), S, p, true)) (fun k => ?_) (Ev.now _)
  rfl

/-- The number that a text is. -/
theorem S_num (S : ByteArray) : ∃ Z : Nat, ∀ i, i < S.size → bt S (i : Int) = ((Z / 256 ^ i % 256 : Nat) : Int) := by
  have hX : ∀ b ∈ bytesOf S, 0 ≤ b ∧ b < 256 := by
    intro b hb
    unfold bytesOf at hb
    obtain ⟨c, _, rfl⟩ := List.mem_map.1 hb
    have := c.toNat_lt
    omega
  have h0 := NB_nonneg _ hX
  obtain ⟨Z, hZ⟩ : ∃ Z : Nat, NB (bytesOf S) = Z := ⟨(NB (bytesOf S)).toNat, by omega⟩
  refine ⟨Z, fun i hi => ?_⟩
  have h1 := NB_get (bytesOf S) i hX (by rw [bytesOf_length]; exact hi)
  have h2 := rd_bytesOf S (i : Int)
  unfold rd at h2
  rw [Int.toNat_natCast] at h2
  rw [← h2, h1, hZ]
  simp
/-- The bits of a number. -/
def bl (Z m : Nat) : List Int := (List.range m).map (fun i => ((Z / 2 ^ i % 2 : Nat) : Int))
theorem bl_len (Z m : Nat) : (bl Z m).length = m := by simp [bl]
theorem bl_succ (Z m : Nat) : bl Z (m + 1) = bl Z m ++ [((Z / 2 ^ m % 2 : Nat) : Int)] := by simp [bl, List.range_succ]
theorem bl_get (Z m i : Nat) (h : i < m) : rd (bl Z m) (i : Int) = ((Z / 2 ^ i % 2 : Nat) : Int) := by
  unfold rd bl
  rw [Int.toNat_natCast, List.getD_eq_getElem?_getD, List.getElem?_map, List.getElem?_range h]
  rfl
theorem bit_of_byte (Z k j : Nat) (hj : j < 8) : Z / 256 ^ k % 256 / 2 ^ j % 2 = Z / 2 ^ (8 * k + j) % 2 := by
  rw [show (256 : Nat) = 2 ^ j * 2 ^ (8 - j) from by rw [← Nat.pow_add, show j + (8 - j) = 8 from by omega], Nat.mod_mul_right_div_self, Nat.mod_mod_of_dvd _ (by rw [show 8 - j = (7 - j) + 1 from by omega, Nat.pow_succ]; exact Nat.dvd_mul_left 2 _), Nat.div_div_eq_div_mul]
  rw [← Nat.pow_add, show j + (8 - j) = 8 from by omega, ← Nat.pow_mul, ← Nat.pow_add]
theorem of_l1 (S : ByteArray) (Z : Nat) (hS : S.size ≤ 1000000) (hZ : ∀ i, i < S.size → bt S (i : Int) = ((Z / 256 ^ i % 256 : Nat) : Int)) (k : Nat) (hk : k < S.size) (r : List Int)
    (h : Ev (fun q => montageref01_Of.l0 q S (bl Z (8 * (k + 1))) ((k + 1 : Nat) : Int)) r) : ∀ (d j : Nat), 8 - j = d → j ≤ 8 → Ev (fun q => montageref01_Of.l1 q S (bl Z (8 * k + j)) (k : Int) ((Z / 256 ^ k % 256 / 2 ^ j : Nat) : Int) (j : Int)) r := by
  intro d
  induction d with
  | zero =>
    intro j hd hj
    obtain rfl : j = 8 := by omega
    refine Ev.step (fun q => ?_) h
    simp only [montageref01_Of.l1]
    rw [if_neg (by omega), w64 (by omega) (by omega), show (k : Int) + 1 = ((k + 1 : Nat) : Int) from by omega, show 8 * k + 8 = 8 * (k + 1) from by omega]
  | succ d ih =>
    intro j hd hj
    have h1 := bit_of_byte Z k j (by omega)
    have h2 : Z / 256 ^ k % 256 / 2 ^ j ≤ Z / 256 ^ k % 256 := Nat.div_le_self _ _
    have h3 : Z / 256 ^ k % 256 < 256 := Nat.mod_lt _ (by decide)
    have h4 := Nat.lt_of_le_of_lt h2 h3
    have e3 : Z / 256 ^ k % 256 / 2 ^ (j + 1) = Z / 256 ^ k % 256 / 2 ^ j / 2 := by rw [Nat.pow_succ, Nat.div_div_eq_div_mul]
    have ih1 := ih (j + 1) (by omega) (by omega)
    rw [e3] at ih1
    clear ih h2 h3 e3
    generalize Z / 256 ^ k % 256 / 2 ^ j = c at *
    have e1 : Int.tmod (c : Int) 2 % 256 = ((c % 2 : Nat) : Int) := by rw [Int.tmod_eq_emod_of_nonneg (by omega)]; omega
    have e2 : Int.tdiv (c : Int) 2 = ((c / 2 : Nat) : Int) := by rw [Int.tdiv_eq_ediv_of_nonneg (by omega)]; omega
    refine Ev.step (fun q => ?_) ih1
    simp only [montageref01_Of.l1]
    rw [if_pos (by omega), if_pos (by rw [bl_len]; omega), e1, e2, h1, w64 (x := ((c / 2 : Nat) : Int)) (by omega) (by omega), w64 (by omega) (by omega), ← bl_succ, show (j : Int) + 1 = ((j + 1 : Nat) : Int) from by omega, Nat.add_assoc]
theorem of_l0 (S : ByteArray) (Z : Nat) (hS : S.size ≤ 1000000) (hZ : ∀ i, i < S.size → bt S (i : Int) = ((Z / 256 ^ i % 256 : Nat) : Int)) :
    ∀ (d k : Nat), S.size - k = d → k ≤ S.size → Ev (fun q => montageref01_Of.l0 q S (bl Z (8 * k)) (k : Int)) (bl Z (8 * S.size)) := by
  intro d
  induction d with
  | zero =>
    intro k hd hk
    obtain rfl : k = S.size := by omega
    refine Ev.step (f := fun _ => some (bl Z (8 * S.size))) (fun q => ?_) (Ev.now _)
    simp only [montageref01_Of.l0]
    rw [if_neg (by omega)]
  | succ d ih =>
    intro k hd hk
    have h := of_l1 S Z hS hZ k (by omega) _ (ih (k + 1) (by omega) (by omega)) 8 0 rfl (by omega)
    have h3 : Z / 256 ^ k % 256 < 256 := Nat.mod_lt _ (by decide)
    refine Ev.step (fun q => ?_) h
    simp only [montageref01_Of.l0]
    rw [if_pos (by omega), if_pos (by omega), hZ k (by omega), w64 (by omega) (by omega), Nat.pow_zero, Nat.div_one, Nat.add_zero]
    rfl
/-- The document's bits of a text. -/
theorem ref_of (S : ByteArray) (Z : Nat) (hS : S.size ≤ 1000000) (hZ : ∀ i, i < S.size → bt S (i : Int) = ((Z / 256 ^ i % 256 : Nat) : Int)) : Ev (fun q => montageref01_Of.f q S) (bl Z (8 * S.size)) :=
  of_l0 S Z hS hZ S.size 0 rfl (by omega)

open Go.Proofs.Ytmanmjjjepdhlaa.XInflateAny (montageref01_Text.f montageref01_Text.l0 montageref01_Text.l1)
/-- The bytes of a number. -/
def by8 (Y q : Nat) : List Int := (List.range q).map (fun i => ((Y / 256 ^ i % 256 : Nat) : Int))
theorem by8_len (Y q : Nat) : (by8 Y q).length = q := by simp [by8]
theorem by8_succ (Y q : Nat) : by8 Y (q + 1) = by8 Y q ++ [((Y / 256 ^ q % 256 : Nat) : Int)] := by simp [by8, List.range_succ]
theorem text_l1 (c : List Int) (Y : Nat) (hS : c.length ≤ 8000000) (hc : ∀ i, i < c.length → rd c (i : Int) = ((Y / 2 ^ i % 2 : Nat) : Int)) (hY : Y < 2 ^ c.length) (q : Nat) (hq : 8 * q < c.length) (r : ByteArray)
    (h : Ev (fun k => montageref01_Text.l0 k c (by8 Y (q + 1)) ((8 * (q + 1) : Nat) : Int)) r) : ∀ m : Nat, m ≤ 8 → Ev (fun k => montageref01_Text.l1 k c (by8 Y q) ((8 * q : Nat) : Int) ((Y / 2 ^ (8 * q + m) % 2 ^ (8 - m) : Nat) : Int) ((m : Int) - 1)) r := by
  intro m
  induction m with
  | zero =>
    intro _
    refine Ev.step (fun k => ?_) h
    have h1 : Y / 2 ^ (8 * q + 0) % 2 ^ (8 - 0) < 256 := Nat.mod_lt _ (by decide)
    have e1 : (((Y / 2 ^ (8 * q + 0) % 2 ^ (8 - 0) : Nat) : Int)) % 256 = ((Y / 256 ^ q % 256 : Nat) : Int) := by
      rw [show (2 : Nat) ^ (8 * q + 0) = 256 ^ q from by rw [Nat.add_zero, Nat.pow_mul], show (2 : Nat) ^ (8 - 0) = 256 from rfl]
      generalize Y / 256 ^ q = z
      omega
    simp only [montageref01_Text.l1]
    rw [if_neg (by omega), if_pos (by rw [by8_len]; omega), e1, w64 (by omega) (by omega), ← by8_succ, show ((8 * q : Nat) : Int) + 8 = ((8 * (q + 1) : Nat) : Int) from by omega]
  | succ m ih =>
    intro hm
    refine Ev.step (fun k => ?_) (ih (by omega))
    have h1 : Y / 2 ^ (8 * q + (m + 1)) % 2 ^ (8 - (m + 1)) < 2 ^ (8 - (m + 1)) := Nat.mod_lt _ (Nat.two_pow_pos _)
    have h2 : 2 ^ (8 - (m + 1)) ≤ 2 ^ 8 := Nat.pow_le_pow_right (by omega) (by omega)
    have e0 : Y / 2 ^ (8 * q + (m + 1)) = Y / 2 ^ (8 * q + m) / 2 := by rw [← Nat.add_assoc, Nat.pow_succ, Nat.div_div_eq_div_mul]
    have e1 := mod_step (Y / 2 ^ (8 * q + m)) (8 - (m + 1))
    rw [← e0, show 8 - (m + 1) + 1 = 8 - m from by omega] at e1
    have h5 : Y / 2 ^ (8 * q + m) % 2 < 2 := Nat.mod_lt _ (by omega)
    have hrd := hc (8 * q + m)
    have hz : ¬ 8 * q + m < c.length → Y / 2 ^ (8 * q + m) % 2 = 0 := by
      intro hn
      rw [Nat.div_eq_of_lt (Nat.lt_of_lt_of_le hY (Nat.pow_le_pow_right (by omega) (by omega)))]
    generalize Y / 2 ^ (8 * q + (m + 1)) % 2 ^ (8 - (m + 1)) = u at *
    generalize Y / 2 ^ (8 * q + m) % 2 = v at *
    simp only [montageref01_Text.l1]
    rw [if_pos (by omega), show ((m + 1 : Nat) : Int) - 1 = (m : Int) from by omega, w64 (x := ((8 * q : Nat) : Int) + m) (by omega) (by omega), show ((8 * q : Nat) : Int) + m = ((8 * q + m : Nat) : Int) from by omega]
    by_cases hlt : 8 * q + m < c.length
    · rw [if_pos (by omega), if_pos (by omega), hrd hlt, w64 (x := 2 * (u : Int)) (by omega) (by omega), w64 (x := (v : Int)) (by omega) (by omega), w64 (by omega) (by omega), w64 (by omega) (by omega), ← e1, show 2 * (u : Int) + (v : Int) = ((2 * u + v : Nat) : Int) from by omega]
    · have hv := hz hlt
      rw [if_neg (by omega), w64 (by omega) (by omega), w64 (by omega) (by omega), ← e1, hv, show 2 * (u : Int) = ((2 * u + 0 : Nat) : Int) from by omega]
theorem text_l0 (c : List Int) (Y : Nat) (hS : c.length ≤ 8000000) (hc : ∀ i, i < c.length → rd c (i : Int) = ((Y / 2 ^ i % 2 : Nat) : Int)) (hY : Y < 2 ^ c.length) :
    ∀ (d q : Nat), (c.length + 7) / 8 - q = d → q ≤ (c.length + 7) / 8 → Ev (fun k => montageref01_Text.l0 k c (by8 Y q) ((8 * q : Nat) : Int)) (strOfNums (by8 Y ((c.length + 7) / 8))) := by
  intro d
  induction d with
  | zero =>
    intro q hd hq
    obtain rfl : q = (c.length + 7) / 8 := by omega
    refine Ev.step (f := fun _ => some (strOfNums (by8 Y ((c.length + 7) / 8)))) (fun k => ?_) (Ev.now _)
    simp only [montageref01_Text.l0]
    rw [if_neg (by omega)]
  | succ d ih =>
    intro q hd hq
    have h := text_l1 c Y hS hc hY q (by omega) _ (ih (q + 1) (by omega) (by omega)) 8 (Nat.le_refl _)
    refine Ev.step (fun k => ?_) h
    simp only [montageref01_Text.l0]
    rw [if_pos (by omega), Nat.sub_self, Nat.pow_zero, Nat.mod_one]
    rfl
/-- The document's text of bits. -/
theorem ref_text (c : List Int) (Y : Nat) (hS : c.length ≤ 8000000) (hc : ∀ i, i < c.length → rd c (i : Int) = ((Y / 2 ^ i % 2 : Nat) : Int)) (hY : Y < 2 ^ c.length) : Ev (fun k => montageref01_Text.f k c) (strOfNums (by8 Y ((c.length + 7) / 8))) :=
  text_l0 c Y hS hc hY _ 0 rfl (by omega)
theorem ba_ext (s t : ByteArray) (h : s.size = t.size) (hb : ∀ i : Nat, i < s.size → bt s (i : Int) = bt t (i : Int)) : s = t := by
  apply ByteArray.ext
  apply Array.ext
  · exact h
  · intro i h1 h2
    have h3 := hb i h1
    unfold bt at h3
    rw [dif_pos (by rw [Int.toNat_natCast]; exact h1), dif_pos (by rw [Int.toNat_natCast]; exact h2)] at h3
    simp only [Int.toNat_natCast] at h3
    apply UInt8.toNat.inj
    have h4 : ((s.data[i]).toNat : Int) = ((t.data[i]).toNat : Int) := h3
    omega
theorem by8_get (Y q i : Nat) (h : i < q) : (by8 Y q).getD i 0 = ((Y / 256 ^ i % 256 : Nat) : Int) := by
  unfold by8
  rw [List.getD_eq_getElem?_getD, List.getElem?_map, List.getElem?_range h]
  rfl
theorem by8_range (Y q : Nat) : ∀ b ∈ by8 Y q, 0 ≤ b ∧ b < 256 := by
  intro b hb
  unfold by8 at hb
  obtain ⟨i, _, rfl⟩ := List.mem_map.1 hb
  omega
theorem mod_bit (A m i : Nat) (h : i < m) : A % 2 ^ m / 2 ^ i % 2 = A / 2 ^ i % 2 := by
  rw [show m = i + (m - i) from by omega, Nat.pow_add, Nat.mod_mul_right_div_self, Nat.mod_mod_of_dvd _ (by rw [show m - i = 1 + (m - i - 1) from by omega, Nat.pow_add]; exact Nat.dvd_mul_right _ _)]
theorem text_is (B : List Int) (last n : Int) (Z t : Nat) (h : Inv B last n (Z : Int) t) : strOfNums (if n = 0 then B else B ++ [last]) = strOfNums (by8 Z ((t + 7) / 8)) := by
  obtain ⟨h1, h2, h3⟩ := text_reads B last n Z t h
  generalize strOfNums (if n = 0 then B else B ++ [last]) = T at *
  refine ba_ext _ _ (by rw [str_size, by8_len]; omega) fun i hi => ?_
  rw [h3 i hi, str_get _ _ (by rw [by8_len]; omega) (by8_range _ _), by8_get _ _ _ (by omega)]
theorem rtext_is (Z t : Nat) (ht : t ≤ 8000000) (hZ : Z < 2 ^ t) : Ev (fun k => montageref01_Text.f k (bl Z t)) (strOfNums (by8 Z ((t + 7) / 8))) := by
  have h := ref_text (bl Z t) Z (by rw [bl_len]; exact ht) (fun i hi => bl_get _ _ _ (by rw [bl_len] at hi; exact hi)) (by rw [bl_len]; exact hZ)
  rw [bl_len] at h
  exact h
theorem bl_app (Z t x M : Nat) (hZ : Z < 2 ^ t) : bl Z t ++ bl x M = bl (Z + (x % 2 ^ M) * 2 ^ t) (t + M) := by
  apply List.ext_getElem
  · simp [bl_len]
  · intro i h1 h2
    simp [bl_len] at h1 h2
    simp only [bl, List.getElem_append, List.getElem_map, List.getElem_range, List.length_map, List.length_range]
    split
    · rename_i hi
      congr 1
      rw [show (2 : Nat) ^ t = 2 ^ i * 2 ^ (t - i) from by rw [← Nat.pow_add]; congr 1; omega, ← Nat.mul_assoc, Nat.mul_right_comm, Nat.add_mul_div_right _ _ (Nat.two_pow_pos i), show t - i = (t - i - 1) + 1 from by omega, Nat.pow_succ, ← Nat.mul_assoc]
      omega
    · rename_i hi
      congr 1
      have e1 : Z + x % 2 ^ M * 2 ^ t = Z + 2 ^ t * (x % 2 ^ M) := by rw [Nat.mul_comm]
      rw [show i = t + (i - t) from by omega, Nat.pow_add, ← Nat.div_div_eq_div_mul, e1, Nat.add_mul_div_left _ _ (Nat.two_pow_pos t), Nat.div_eq_of_lt hZ, Nat.zero_add, show t + (i - t) - t = i - t from by omega]
      rw [mod_bit _ _ _ (by omega)]

end Go.Proofs.Ytmanmjjjepdhlaa.XInflateAny
