-- Written by this session's own program wip/xprint.py: a changed copy of the kit's print.
import Derived.Test.YtmanmjjjepdhlaaXInflateAnyx0
namespace Go.Proofs.Ytmanmjjjepdhlaa.XInflateAny
open Go.RowKit Go.Proofs.YtmanmjjjepdhlaaW.PrintWords Go.Proofs.YtmanmjjjepdhlaaW.PrintLast Go.Proofs.YtmanmjjjepdhlaaW.PrintMore
attribute [local go_sem] max2_int min2_int max_two min_two max_three min_three max_four min_four   -- for this text's walks alone
set_option linter.unusedVariables false
set_option linter.unusedSimpArgs false

/-- A state of type 155 at block g of W; what its slices lead to came in by w0. -/
def IsS155 (w0 W : World) (g : Nat) (f0 : ByteArray) (f1 : Int) (f2 : Bool) : Prop := W.heap[g]? = some (.cells #[.string f0, .int .i64 f1, .bool f2] 155 (0, 0)) ∧ w0.heap.size ≤ g
theorem IsS155.grown {w0 W : World} {g : Nat} {f0 : ByteArray} {f1 : Int} {f2 : Bool} {W1 : World} {row : Option Nat} (h : IsS155 w0 W g f0 f1 f2) (hw : W.grownBy W1 row) (hne : some g ≠ row) : IsS155 w0 W1 g f0 f1 f2 := by
  obtain ⟨hb, hg⟩ := h
  exact ⟨blk_grown hb hw hne, hg⟩
theorem IsS155.own_neN {w0 W : World} {g : Nat} {f0 : ByteArray} {f1 : Int} {f2 : Bool} {α : Type} {d : Kd α} {e : Nat} {base : Nat} {ok : Nat → Prop} {v : Value} {xs : List α} (h : IsS155 w0 W g f0 f1 f2) (ho : Kd.N d e W base ok v xs) (ht : e ≠ 155) : some g ≠ v.ownBlock := by
  obtain ⟨hb, hg⟩ := h
  exact Kd.N_ne ho hb ht
theorem IsS155.fresh {w0 W : World} {g : Nat} {f0 : ByteArray} {f1 : Int} {f2 : Bool} (h : IsS155 w0 W g f0 f1 f2) : ∀ k, W.heap.size ≤ k → k ≠ g := by
  obtain ⟨hb, hg⟩ := h
  exact Kd.freshB hb
theorem IsS155.kept {w0 W : World} {g : Nat} {f0 : ByteArray} {f1 : Int} {f2 : Bool} {W1 : World} {S : Nat → Prop} (h : IsS155 w0 W g f0 f1 f2) (hk : Kept W W1 S) (hne : ¬ S g) : IsS155 w0 W1 g f0 f1 f2 := by
  obtain ⟨hb, hg⟩ := h
  exact ⟨blk_kept hb hk hne, hg⟩
theorem IsS155.below {w0 W : World} {g : Nat} {f0 : ByteArray} {f1 : Int} {f2 : Bool} {W1 : World} (h : IsS155 w0 W g f0 f1 f2) (hw : Below W.heap.size W W1) : IsS155 w0 W1 g f0 f1 f2 := h.grown (grown_of_below hw none) (by simp)
theorem IsS155.alloc {w0 W : World} {g : Nat} {f0 : ByteArray} {f1 : Int} {f2 : Bool} (h : IsS155 w0 W g f0 f1 f2) (o : Obj) : IsS155 w0 (W.alloc o) g f0 f1 f2 := h.below (below_alloc (Below.refl _ _) o)
theorem IsS155.drewN {w0 W : World} {g : Nat} {f0 : ByteArray} {f1 : Int} {f2 : Bool} (h : IsS155 w0 W g f0 f1 f2) (m : Nat) : IsS155 w0 (W.drewN m) g f0 f1 f2 := h
theorem IsS155.drew {w0 W : World} {g : Nat} {f0 : ByteArray} {f1 : Int} {f2 : Bool} (h : IsS155 w0 W g f0 f1 f2) : IsS155 w0 W.drew g f0 f1 f2 := h
theorem IsS155.at_ {w0 W : World} {g : Nat} {f0 : ByteArray} {f1 : Int} {f2 : Bool} {w' : World} {m : Nat} (hq : W.drewN m = w') (h : IsS155 w0 W g f0 f1 f2) : IsS155 w0 w' g f0 f1 f2 := by subst hq; exact IsS155.drewN h m
theorem IsS155.apart {w0 W : World} {g : Nat} {f0 : ByteArray} {f1 : Int} {f2 : Bool} {α : Type} {d : Kd α} {e : Nat} {base : Nat} {ok : Nat → Prop} {v : Value} {xs : List α} (h : IsS155 w0 W g f0 f1 f2) (ho : d.R e W base ok v xs) (ht : ∀ q, q ∈ e :: d.E → q ≠ 155) : d.R e W base (fun k => ok k ∧ k ≠ g) v xs := by
  obtain ⟨hb, hg⟩ := h
  exact Kd.R_types ho hb ht
theorem IsS155.own_ne {w0 W : World} {g : Nat} {f0 : ByteArray} {f1 : Int} {f2 : Bool} {α : Type} {d : Kd α} {e : Nat} {base : Nat} {ok : Nat → Prop} {v : Value} {xs : List α} (h : IsS155 w0 W g f0 f1 f2) (ho : d.R e W base ok v xs) (ht : e ≠ 155) : some g ≠ v.ownBlock := by
  obtain ⟨hb, hg⟩ := h
  exact Kd.R_ne ho hb ht
theorem IsS155.apartQ {w0 W : World} {g : Nat} {f0 : ByteArray} {f1 : Int} {f2 : Bool} {α : Type} {d : Kd α} {e : Nat} {base : Nat} {ok : Nat → Prop} {v : Value} {xs : List α} (h : IsS155 w0 W g f0 f1 f2) (ho : d.Q e W base ok v xs) (ht : ∀ q, q ∈ e :: d.E → q ≠ 155) : d.Q e W base (fun k => ok k ∧ k ≠ g) v xs := by
  obtain ⟨hb, hg⟩ := h
  exact Kd.Q_types ho hb ht
theorem IsS155.own_neQ {w0 W : World} {g : Nat} {f0 : ByteArray} {f1 : Int} {f2 : Bool} {α : Type} {d : Kd α} {e : Nat} {base : Nat} {ok : Nat → Prop} {v : Value} {xs : List α} (h : IsS155 w0 W g f0 f1 f2) (ho : d.Q e W base ok v xs) (ht : e ≠ 155) : some g ≠ v.ownBlock := by
  obtain ⟨hb, hg⟩ := h
  exact Kd.Q_ne ho hb ht
theorem IsS155.apartS {w0 W : World} {g : Nat} {f0 : ByteArray} {f1 : Int} {f2 : Bool} {α : Type} {d : Kd α} {e : Nat} {base : Nat} {ok : Nat → Prop} {v : Value} {xs : List α} (h : IsS155 w0 W g f0 f1 f2) (ho : d.S e W base ok v xs) (ht : ∀ q, q ∈ e :: d.E → q ≠ 155) : d.S e W base (fun k => ok k ∧ k ≠ g) v xs := by
  obtain ⟨hb, hg⟩ := h
  exact Kd.S_types ho hb ht
theorem IsS155.own_neS {w0 W : World} {g : Nat} {f0 : ByteArray} {f1 : Int} {f2 : Bool} {α : Type} {d : Kd α} {e : Nat} {base : Nat} {ok : Nat → Prop} {v : Value} {xs : List α} (h : IsS155 w0 W g f0 f1 f2) (ho : d.S e W base ok v xs) (ht : e ≠ 155) : some g ≠ v.ownBlock := by
  obtain ⟨hb, hg⟩ := h
  exact Kd.S_ne ho hb ht
theorem IsS155.lt {w0 W : World} {g : Nat} {f0 : ByteArray} {f1 : Int} {f2 : Bool} (h : IsS155 w0 W g f0 f1 f2) : g < W.heap.size := by
  obtain ⟨hb, hg⟩ := h
  exact blk_lt hb
theorem IsS155.ge {w0 W : World} {g : Nat} {f0 : ByteArray} {f1 : Int} {f2 : Bool} (h : IsS155 w0 W g f0 f1 f2) : w0.heap.size ≤ g := by
  obtain ⟨hb, hg⟩ := h
  exact hg
theorem IsS155.ne_blk {w0 W : World} {g : Nat} {f0 : ByteArray} {f1 : Int} {f2 : Bool} {a : Nat} {cs : Array Value} {t : TypeId} {fr : Nat × Nat} (h : IsS155 w0 W g f0 f1 f2) (hb2 : W.heap[a]? = some (.cells cs t fr)) (ht : t ≠ 155) : g ≠ a := by
  obtain ⟨hb, hg⟩ := h
  rintro rfl
  rw [hb] at hb2
  injection hb2 with hb2
  injection hb2 with _ ht2
  exact ht ht2.symm
theorem IsS155.far {w0 W : World} {g : Nat} {f0 : ByteArray} {f1 : Int} {f2 : Bool} {p : Addr} (h : IsS155 w0 W g f0 f1 f2) (hne : g ≠ p.block) (u : Value) : IsS155 w0 (W.setCell p u) g f0 f1 f2 := by
  obtain ⟨hb, hg⟩ := h
  exact ⟨blk_far hb hne u, hg⟩
theorem cellS155_0 {W : World} {g : Nat} {f0 : ByteArray} {f1 : Int} {f2 : Bool} (h : W.heap[g]? = some (.cells #[.string f0, .int .i64 f1, .bool f2] 155 (0, 0))) : W.cell? ⟨g, 0, none⟩ = some (.string f0) := (blk_cell h 0).trans rfl
theorem IsS155.set_0 {w0 W : World} {g : Nat} {f0 : ByteArray} {f1 : Int} {f2 : Bool} (h : IsS155 w0 W g f0 f1 f2) (x : ByteArray) : IsS155 w0 (W.setCell ⟨g, 0, none⟩ (.string x)) g x f1 f2 := by
  obtain ⟨hb, hg⟩ := h
  exact ⟨by simpa using blk_set hb 0 (.string x), hg⟩
theorem cellS155_1 {W : World} {g : Nat} {f0 : ByteArray} {f1 : Int} {f2 : Bool} (h : W.heap[g]? = some (.cells #[.string f0, .int .i64 f1, .bool f2] 155 (0, 0))) : W.cell? ⟨g, 1, none⟩ = some (.int .i64 f1) := (blk_cell h 1).trans rfl
theorem IsS155.set_1 {w0 W : World} {g : Nat} {f0 : ByteArray} {f1 : Int} {f2 : Bool} (h : IsS155 w0 W g f0 f1 f2) (x : Int) : IsS155 w0 (W.setCell ⟨g, 1, none⟩ (.int .i64 x)) g f0 x f2 := by
  obtain ⟨hb, hg⟩ := h
  exact ⟨by simpa using blk_set hb 1 (.int .i64 x), hg⟩
theorem cellS155_2 {W : World} {g : Nat} {f0 : ByteArray} {f1 : Int} {f2 : Bool} (h : W.heap[g]? = some (.cells #[.string f0, .int .i64 f1, .bool f2] 155 (0, 0))) : W.cell? ⟨g, 2, none⟩ = some (.bool f2) := (blk_cell h 2).trans rfl
theorem IsS155.set_2 {w0 W : World} {g : Nat} {f0 : ByteArray} {f1 : Int} {f2 : Bool} (h : IsS155 w0 W g f0 f1 f2) (x : Bool) : IsS155 w0 (W.setCell ⟨g, 2, none⟩ (.bool x)) g f0 f1 x := by
  obtain ⟨hb, hg⟩ := h
  exact ⟨by simpa using blk_set hb 2 (.bool x), hg⟩
theorem IsS155.new (w0 W : World) (f0 : ByteArray) (f1 : Int) (f2 : Bool) (hB : Below w0.heap.size w0 W) : IsS155 w0 (W.alloc (.cells #[.string f0, .int .i64 f1, .bool f2] 155)) W.heap.size f0 f1 f2 := ⟨by simpa using heap_alloc_new W _, hB.size⟩

/-! ### bits_NewReader: function 90 -/
def bits_NewReader.f (a0 : ByteArray) : Option (ByteArray × Int × Bool) := some (a0, 0, false)
set_option maxHeartbeats 8000000 in
set_option maxRecDepth 100000 in
theorem bits_NewReader.calls (a0 : ByteArray) (r1 : ByteArray) (r2 : Int) (r3 : Bool) (w0 w : World) (hB : Below w0.heap.size w0 w) (h : bits_NewReader.f a0 = some (r1, r2, r3)) :
    Calls Try.prog 90 #[.string a0] w fun e w' => ∃ g_ : Nat, e = .returned (.pointer (some ⟨g_, 0, none⟩)) ∧ IsS155 w0 w' g_ r1 r2 r3 ∧ Below w0.heap.size w0 w' ∧ Below w.heap.size w w' := by
  have hu155 := Try.underlying155
  have HBW := Aside0.mk (Below.refl w.heap.size w)
  have HW0 := Aside0.mk hB.size
  have HB := Aside0.mk hB
  clear hB
  have H : (some (a0, 0, false)) = some (r1, r2, r3) := h
  clear h
  simp only [Option.some.injEq, Prod.mk.injEq] at H
  obtain ⟨rfl, rfl, rfl⟩ := H
  go_enter Try.func90, Try.ntmps90
  go_wp2_with (first | ((with_reducible refine gate_dst (N := 5) rfl ?_); refine box_event ?hg (N := 5) ?hd (cs := #[.string a0, .int .i64 0, .bool false]) (t := 155) ?hr ?_; (case hd => rfl); (case hg => rfl); (case hr => first | (go_simp; done) | (go_simp; rfl)); intro gb101 hg w2 hbox hb; have n0_ := Aside0.mk (below_step HBW.out hb); have n1_ := Aside0.mk (below_step (by repeat (first | (with_reducible first | exact HB.out | apply below_alloc | apply pw_below_drewN | apply below_drew1) | exact HB.out)) hb); have n2_ := Aside0.mk (hbox); have n3_ := Aside0.mk ((by rw [hg]; exact (below_size (by repeat (first | (with_reducible first | exact HBW.out | apply below_alloc | apply pw_below_drewN | apply below_drew1) | exact HBW.out))) : w.heap.size ≤ gb101)); have n4_ := Aside0.mk ((Nat.le_trans HW0.out (by rw [hg]; exact (below_size (by repeat (first | (with_reducible first | exact HBW.out | apply below_alloc | apply pw_below_drewN | apply below_drew1) | exact HBW.out))) : w.heap.size ≤ gb101) : w0.heap.size ≤ gb101)); clear HBW; clear HB; have HBW := n0_; have HB := n1_; have BK101 := n2_; have GW101 := n3_; have GE101 := n4_; clear n0_ n1_ n2_ n3_ n4_; clear hb hbox hg))
  go_ret
  exact ⟨_, rfl, (show IsS155 w0 _ gb101 a0 0 false from ⟨by (with_reducible repeat (first | refine blk_drewN ?_ _ | refine blk_drew ?_ | refine blk_alloc ?_ _)); exact BK101.out, GE101.out⟩), by repeat (first | (with_reducible first | exact HB.out | apply below_alloc | apply pw_below_drewN | apply below_drew1 | refine below_set ?_ GE101.out) | exact HB.out), by repeat (first | (with_reducible first | exact HBW.out | apply below_alloc | apply pw_below_drewN | apply below_drew1 | refine below_set ?_ GW101.out) | exact HBW.out)⟩

/-! ### bits_Reader_live: function 153 -/
def bits_Reader_live.f (s0_0 : ByteArray) (s0_1 : Int) (s0_2 : Bool) : Option (Bool × ByteArray × Int × Bool) := some (!s0_2, s0_0, s0_1, s0_2)
set_option maxHeartbeats 8000000 in
set_option maxRecDepth 100000 in
theorem bits_Reader_live.calls (g : Nat) (s0_0 : ByteArray) (s0_1 : Int) (s0_2 : Bool) (r1 : Bool) (r2 : ByteArray) (r3 : Int) (r4 : Bool) (w0 w : World) (hI : IsS155 w0 w g s0_0 s0_1 s0_2) (hB : Below w0.heap.size w0 w) (h : bits_Reader_live.f s0_0 s0_1 s0_2 = some (r1, r2, r3, r4)) :
    Calls Try.prog 153 #[.pointer (some ⟨g, 0, none⟩)] w fun e w' => e = .returned (.bool r1) ∧ IsS155 w0 w' g r2 r3 r4 ∧ Below w0.heap.size w0 w' ∧ KeepBut w w' g none := by
  have HI0 := Aside0.mk hI
  have HK := Aside0.mk (KeepBut.refl w g none)
  have HL := Aside0.mk hB.size
  clear hI
  have HW0 := Aside0.mk hB.size
  have HB := Aside0.mk hB
  clear hB
  have H : (some (!s0_2, s0_0, s0_1, s0_2)) = some (r1, r2, r3, r4) := h
  clear h
  simp only [Option.some.injEq, Prod.mk.injEq] at H
  obtain ⟨rfl, rfl, rfl, rfl⟩ := H
  obtain ⟨HGz2, hgz2⟩ := HI0.out
  have hcz2_0 := cellS155_0 HGz2
  have hcz2_1 := cellS155_1 HGz2
  have hcz2_2 := cellS155_2 HGz2
  have hfz2_0 := blk_frozen HGz2 0
  have hfz2_1 := blk_frozen HGz2 1
  have hfz2_2 := blk_frozen HGz2 2
  clear HGz2 hgz2
  go_enter Try.func153, Try.ntmps153
  go_wp2
  go_ret
  exact ⟨by first | rfl | (simp [errW_none, errW_some] <;> rfl) | (simp [*, errW_none, errW_some] <;> rfl), by repeat (first | (with_reducible first | exact HI0.out | apply IsS155.alloc | apply IsS155.drewN | apply IsS155.drew | apply IsS155.set_0 | apply IsS155.set_1 | apply IsS155.set_2) | exact HI0.out), by repeat (first | (with_reducible first | exact HB.out | apply below_alloc | apply pw_below_drewN | apply below_drew1 | refine below_set ?_ (IsS155.ge HI0.out)) | exact HB.out), by repeat (first | (with_reducible first | exact HK.out | apply KeepBut.set_ | apply keep_drewN | apply keep_drew | apply keep_alloc) | exact HK.out)⟩

/-! ### bits_Reader_Left: function 154 -/
def bits_Reader_Left.f (s0_0 : ByteArray) (s0_1 : Int) (s0_2 : Bool) : Option (Int × ByteArray × Int × Bool) := some (wrap64 ((wrap64 (8 * (s0_0.size : Int))) - s0_1), s0_0, s0_1, s0_2)
set_option maxHeartbeats 8000000 in
set_option maxRecDepth 100000 in
theorem bits_Reader_Left.calls (g : Nat) (s0_0 : ByteArray) (s0_1 : Int) (s0_2 : Bool) (r1 : Int) (r2 : ByteArray) (r3 : Int) (r4 : Bool) (w0 w : World) (hI : IsS155 w0 w g s0_0 s0_1 s0_2) (hB : Below w0.heap.size w0 w) (h : bits_Reader_Left.f s0_0 s0_1 s0_2 = some (r1, r2, r3, r4)) :
    Calls Try.prog 154 #[.pointer (some ⟨g, 0, none⟩)] w fun e w' => e = .returned (.int .i64 r1) ∧ IsS155 w0 w' g r2 r3 r4 ∧ Below w0.heap.size w0 w' ∧ KeepBut w w' g none := by
  have HI0 := Aside0.mk hI
  have HK := Aside0.mk (KeepBut.refl w g none)
  have HL := Aside0.mk hB.size
  clear hI
  have HW0 := Aside0.mk hB.size
  have HB := Aside0.mk hB
  clear hB
  have H : (some (wrap64 ((wrap64 (8 * (s0_0.size : Int))) - s0_1), s0_0, s0_1, s0_2)) = some (r1, r2, r3, r4) := h
  clear h
  simp only [Option.some.injEq, Prod.mk.injEq] at H
  obtain ⟨rfl, rfl, rfl, rfl⟩ := H
  obtain ⟨HGz2, hgz2⟩ := HI0.out
  have hcz2_0 := cellS155_0 HGz2
  have hcz2_1 := cellS155_1 HGz2
  have hcz2_2 := cellS155_2 HGz2
  have hfz2_0 := blk_frozen HGz2 0
  have hfz2_1 := blk_frozen HGz2 1
  have hfz2_2 := blk_frozen HGz2 2
  clear HGz2 hgz2
  go_enter Try.func154, Try.ntmps154
  go_wp2
  repeat (go_quiet (fail); try go_wp2)
  go_ret
  exact ⟨by first | rfl | (simp [errW_none, errW_some] <;> rfl) | (simp [*, errW_none, errW_some] <;> rfl), by repeat (first | (with_reducible first | exact HI0.out | apply IsS155.alloc | apply IsS155.drewN | apply IsS155.drew | apply IsS155.set_0 | apply IsS155.set_1 | apply IsS155.set_2) | exact HI0.out), by repeat (first | (with_reducible first | exact HB.out | apply below_alloc | apply pw_below_drewN | apply below_drew1 | refine below_set ?_ (IsS155.ge HI0.out)) | exact HB.out), by repeat (first | (with_reducible first | exact HK.out | apply KeepBut.set_ | apply keep_drewN | apply keep_drew | apply keep_alloc) | exact HK.out)⟩

/-! ### bits_Reader_Bits: function 136 -/
mutual
def bits_Reader_Bits.j0 : Nat → Int → Bool → ByteArray → Int → Bool → Option (Int × ByteArray × Int × Bool)
  | 0, _, _, _, _, _ => none
  | k + 1, x1, x22, x1000, x1001, x1002 => if x22 = true then (some (0, x1000, x1001, true)) else (bits_Reader_Bits.l0 k x1 0 0 (wrap64 (Int.tdiv x1001 8)) x1000 x1001 x1002)
def bits_Reader_Bits.l0 : Nat → Int → Int → Int → Int → ByteArray → Int → Bool → Option (Int × ByteArray × Int × Bool)
  | 0, _, _, _, _, _, _, _ => none
  | k + 1, x1, x5, x6, x7, x1000, x1001, x1002 => if x6 < (wrap64 (x1 + (Int.tmod x1001 8))) then (if 0 ≤ x7 then (if x7 < (x1000.size : Int) then (if 0 ≤ x6 then (bits_Reader_Bits.l0 k x1 (Go.bits .or .u64 x5 (shl .u64 (IntKind.u64.wrap (bt x1000 x7)) x6)) (wrap64 (x6 + 8)) (wrap64 (x7 + 1)) x1000 x1001 x1002) else (none)) else (none)) else (none)) else (if 0 ≤ (Int.tmod x1001 8) then (if 0 ≤ x1 then (some ((Go.bits .and .u64 (shr .u64 x5 (Int.tmod x1001 8)) (IntKind.u64.wrap ((shl .u64 1 x1) - 1))) % 4294967296, x1000, wrap64 (x1001 + x1), x1002)) else (none)) else (none))
end
def bits_Reader_Bits.f (k : Nat) (s0_0 : ByteArray) (s0_1 : Int) (s0_2 : Bool) (a1 : Int) : Option (Int × ByteArray × Int × Bool) := (bits_Reader_live.f s0_0 s0_1 s0_2).bind fun bt102 => (if bt102.1 = true then (if a1 < 0 then (bits_Reader_Bits.j0 k a1 true bt102.2.1 bt102.2.2.1 bt102.2.2.2) else (if a1 > 32 then (bits_Reader_Bits.j0 k a1 true bt102.2.1 bt102.2.2.1 bt102.2.2.2) else ((bits_Reader_Left.f bt102.2.1 bt102.2.2.1 bt102.2.2.2).bind fun bt106 => (bits_Reader_Bits.j0 k a1 (decide (a1 > bt106.1)) bt106.2.1 bt106.2.2.1 bt106.2.2.2)))) else (some (0, bt102.2.1, bt102.2.2.1, bt102.2.2.2)))
theorem bits_Reader_Bits.mono_l : ∀ k, (∀ y0 y1 y2 y3 y4, LeO (bits_Reader_Bits.j0 k y0 y1 y2 y3 y4) (bits_Reader_Bits.j0 (k + 1) y0 y1 y2 y3 y4)) ∧ (∀ y0 y1 y2 y3 y4 y5 y6, LeO (bits_Reader_Bits.l0 k y0 y1 y2 y3 y4 y5 y6) (bits_Reader_Bits.l0 (k + 1) y0 y1 y2 y3 y4 y5 y6))
  | 0 => ⟨fun _ _ _ _ _ r h => by simp [bits_Reader_Bits.j0] at h, fun _ _ _ _ _ _ _ r h => by simp [bits_Reader_Bits.l0] at h⟩
  | k + 1 => by
    obtain ⟨ih0, ih1⟩ := bits_Reader_Bits.mono_l k
    refine ⟨?_, ?_⟩
    · intro y0 y1 y2 y3 y4
      unfold bits_Reader_Bits.j0
      repeat' first
      | (with_reducible exact ih0 _ _ _ _ _)
      | (with_reducible exact ih1 _ _ _ _ _ _ _)
      | (with_reducible exact LeO.refl _)
      | (with_reducible exact LeO.none _)
      | (with_reducible refine LeO.ite ?_ ?_)
      | (with_reducible refine LeO.bind ?_ (fun _ => ?_))
      | exact ih0 _ _ _ _ _
      | exact ih1 _ _ _ _ _ _ _
      | exact LeO.none _
      | refine LeO.ite ?_ ?_
      | refine LeO.bind ?_ (fun _ => ?_)
    · intro y0 y1 y2 y3 y4 y5 y6
      unfold bits_Reader_Bits.l0
      repeat' first
      | (with_reducible exact ih0 _ _ _ _ _)
      | (with_reducible exact ih1 _ _ _ _ _ _ _)
      | (with_reducible exact LeO.refl _)
      | (with_reducible exact LeO.none _)
      | (with_reducible refine LeO.ite ?_ ?_)
      | (with_reducible refine LeO.bind ?_ (fun _ => ?_))
      | exact ih0 _ _ _ _ _
      | exact ih1 _ _ _ _ _ _ _
      | exact LeO.none _
      | refine LeO.ite ?_ ?_
      | refine LeO.bind ?_ (fun _ => ?_)
theorem bits_Reader_Bits.mono : ∀ a0 a1 a2 a3 k, LeO (bits_Reader_Bits.f k a0 a1 a2 a3) (bits_Reader_Bits.f (k + 1) a0 a1 a2 a3) := by
  intro a0 a1 a2 a3 k
  obtain ⟨ih0, ih1⟩ := bits_Reader_Bits.mono_l k
  unfold bits_Reader_Bits.f
  repeat' first
      | (with_reducible exact ih0 _ _ _ _ _)
      | (with_reducible exact ih1 _ _ _ _ _ _ _)
      | (with_reducible exact LeO.refl _)
      | (with_reducible exact LeO.none _)
      | (with_reducible refine LeO.ite ?_ ?_)
      | (with_reducible refine LeO.bind ?_ (fun _ => ?_))
      | exact ih0 _ _ _ _ _
      | exact ih1 _ _ _ _ _ _ _
      | exact LeO.none _
      | refine LeO.ite ?_ ?_
      | refine LeO.bind ?_ (fun _ => ?_)
set_option maxHeartbeats 8000000 in
set_option maxRecDepth 100000 in
theorem bits_Reader_Bits.calls (k : Nat) (g : Nat) (s0_0 : ByteArray) (s0_1 : Int) (s0_2 : Bool) (a1 : Int) (r1 : Int) (r2 : ByteArray) (r3 : Int) (r4 : Bool) (w0 w : World) (hI : IsS155 w0 w g s0_0 s0_1 s0_2) (hB : Below w0.heap.size w0 w) (h : bits_Reader_Bits.f k s0_0 s0_1 s0_2 a1 = some (r1, r2, r3, r4)) :
    Calls Try.prog 136 #[.pointer (some ⟨g, 0, none⟩), .int .i64 a1] w fun e w' => e = .returned (.int .u32 r1) ∧ IsS155 w0 w' g r2 r3 r4 ∧ Below w0.heap.size w0 w' ∧ KeepBut w w' g none := by
  have HI0 := Aside0.mk hI
  have HK := Aside0.mk (KeepBut.refl w g none)
  have HL := Aside0.mk hB.size
  clear hI
  have HW0 := Aside0.mk hB.size
  have HB := Aside0.mk hB
  clear hB
  have H : ((bits_Reader_live.f s0_0 s0_1 s0_2).bind fun bt102 => (if bt102.1 = true then (if a1 < 0 then (bits_Reader_Bits.j0 k a1 true bt102.2.1 bt102.2.2.1 bt102.2.2.2) else (if a1 > 32 then (bits_Reader_Bits.j0 k a1 true bt102.2.1 bt102.2.2.1 bt102.2.2.2) else ((bits_Reader_Left.f bt102.2.1 bt102.2.2.1 bt102.2.2.2).bind fun bt106 => (bits_Reader_Bits.j0 k a1 (decide (a1 > bt106.1)) bt106.2.1 bt106.2.2.1 bt106.2.2.2)))) else (some (0, bt102.2.1, bt102.2.2.1, bt102.2.2.2)))) = some (r1, r2, r3, r4) := h
  clear h
  replace H := Option.bind_eq_some_iff.mp H
  obtain ⟨⟨t102, t103, t104, t105⟩, A30, H⟩ := H
  replace H : (if t102 = true then (if a1 < 0 then (bits_Reader_Bits.j0 k a1 true t103 t104 t105) else (if a1 > 32 then (bits_Reader_Bits.j0 k a1 true t103 t104 t105) else ((bits_Reader_Left.f t103 t104 t105).bind fun bt106 => (bits_Reader_Bits.j0 k a1 (decide (a1 > bt106.1)) bt106.2.1 bt106.2.2.1 bt106.2.2.2)))) else (some (0, t103, t104, t105))) = some (r1, r2, r3, r4) := H
  have A3 := Aside0.mk A30
  clear A30
  by_cases c4 : t102 = true
  · subst c4
    have H1 : (if a1 < 0 then (bits_Reader_Bits.j0 k a1 true t103 t104 t105) else (if a1 > 32 then (bits_Reader_Bits.j0 k a1 true t103 t104 t105) else ((bits_Reader_Left.f t103 t104 t105).bind fun bt106 => (bits_Reader_Bits.j0 k a1 (decide (a1 > bt106.1)) bt106.2.1 bt106.2.2.1 bt106.2.2.2)))) = some (r1, r2, r3, r4) := by rw [if_pos rfl] at H; exact H
    clear H
    have H := H1
    clear H1
    have HC5 := Aside0.mk H
    clear H
    go_enter Try.func136, Try.ntmps136
    go_upto_region 3 with (first | ((with_reducible refine gate_callee (f := 153) rfl ?_); refine goesL_ (some 9) rfl rfl Try.func153 (by kernel_rfl) rfl #[.pointer (some ⟨g, 0, none⟩)] rfl (by (try simp only [List.map_toArray, List.map_cons, List.map_nil]); first | done | rfl | (simp only [List.length_drop, List.length_take]; rfl)) ?_; (with_reducible refine (bits_Reader_live.calls g s0_0 s0_1 s0_2 true t103 t104 t105 w0 _ ?side1 ?side2 A3.out).mono ?_); (case side1 => repeat (first | (with_reducible first | exact HI0.out | apply IsS155.alloc | apply IsS155.drewN | apply IsS155.drew | apply IsS155.set_0 | apply IsS155.set_1 | apply IsS155.set_2) | exact HI0.out)); (case side2 => repeat (first | (with_reducible first | exact HB.out | apply below_alloc | apply pw_below_drewN | apply below_drew1 | refine below_set ?_ (IsS155.ge HI0.out)) | exact HB.out)); rintro e w6 ⟨rfl, hi, hb, hk⟩; refine ⟨_, rfl, ?_⟩; have n0_ := Aside0.mk (KeepBut.trans (by repeat (first | (with_reducible first | exact HK.out | apply KeepBut.set_ | apply keep_drewN | apply keep_drew | apply keep_alloc) | exact HK.out)) hk (.inl rfl)); have n1_ := Aside0.mk (hb); have n2_ := Aside0.mk (hi); clear HK; clear HB; clear HI0; have HK := n0_; have HB := n1_; have HI0 := n2_; clear n0_ n1_ n2_; (try clear hb); (try clear hb2); (try clear hk); (try clear hi)))
    (try simp only [Act.put, List.setIfInBounds_toArray, List.set_cons_zero, List.set_cons_succ])
    go_cut [22] (fun v22 wc => ∃ (kq : Nat) (x22_4 : Bool) (x1000_4 : ByteArray) (x1001_4 : Int) (x1002_4 : Bool), v22 = .bool x22_4 ∧ Aside0 (bits_Reader_Bits.j0 kq a1 x22_4 x1000_4 x1001_4 x1002_4 = some (r1, r2, r3, r4)) ∧ Aside0 (kq ≤ k) ∧ Aside0 (IsS155 w0 wc g x1000_4 x1001_4 x1002_4) ∧ Aside0 (KeepBut w wc g none) ∧ Aside0 (Below w0.heap.size w0 wc))
    case first =>
      have H := HC5.out
      clear HC5
      by_cases c7 : a1 < 0
      · rw [if_pos c7] at H
        have c7b0 : decide (a1 < 0) = true := decide_eq_true c7
        clear c7
        (first | rw [c7b0] | (simp only [i64_w, i32_w]; rw [c7b0]) | skip)
        have H' := Aside0.mk H
        clear H
        go_wp2
        go_meet
        case rel => exact ⟨_, (true), (t103), (t104), (t105), (by first | rfl | (simp; done) | (simp [*]; done)), H', ⟨by first | omega | exact Nat.le_refl _⟩, ⟨by repeat (first | (with_reducible first | exact HI0.out | apply IsS155.alloc | apply IsS155.drewN | apply IsS155.drew | apply IsS155.set_0 | apply IsS155.set_1 | apply IsS155.set_2) | exact HI0.out)⟩, ⟨by repeat (first | (with_reducible first | exact HK.out | apply KeepBut.set_ | apply keep_drewN | apply keep_drew | apply keep_alloc) | exact HK.out)⟩, ⟨by repeat (first | (with_reducible first | exact HB.out | apply below_alloc | apply pw_below_drewN | apply below_drew1 | refine below_set ?_ (IsS155.ge HI0.out)) | exact HB.out)⟩⟩
      · rw [if_neg c7] at H
        have c7b0 : decide (a1 < 0) = false := decide_eq_false c7
        clear c7
        (first | rw [c7b0] | (simp only [i64_w, i32_w]; rw [c7b0]) | skip)
        by_cases c8 : a1 > 32
        · rw [if_pos c8] at H
          have c8b0 : decide (32 < a1) = true := decide_eq_true c8
          clear c8
          have H' := Aside0.mk H
          clear H
          go_wp2
          go_meet
          case rel => exact ⟨_, (true), (t103), (t104), (t105), (by first | rfl | (simp; done) | (simp [*]; done)), H', ⟨by first | omega | exact Nat.le_refl _⟩, ⟨by repeat (first | (with_reducible first | exact HI0.out | apply IsS155.alloc | apply IsS155.drewN | apply IsS155.drew | apply IsS155.set_0 | apply IsS155.set_1 | apply IsS155.set_2) | exact HI0.out)⟩, ⟨by repeat (first | (with_reducible first | exact HK.out | apply KeepBut.set_ | apply keep_drewN | apply keep_drew | apply keep_alloc) | exact HK.out)⟩, ⟨by repeat (first | (with_reducible first | exact HB.out | apply below_alloc | apply pw_below_drewN | apply below_drew1 | refine below_set ?_ (IsS155.ge HI0.out)) | exact HB.out)⟩⟩
        · rw [if_neg c8] at H
          have c8b0 : decide (32 < a1) = false := decide_eq_false c8
          clear c8
          replace H := Option.bind_eq_some_iff.mp H
          obtain ⟨⟨t106, t107, t108, t109⟩, A90, H⟩ := H
          replace H : (bits_Reader_Bits.j0 k a1 (decide (a1 > t106)) t107 t108 t109) = some (r1, r2, r3, r4) := H
          have A9 := Aside0.mk A90
          clear A90
          have H' := Aside0.mk H
          clear H
          go_wp2_with (first | (go_at_call 154; (with_reducible refine (bits_Reader_Left.calls g t103 t104 t105 t106 t107 t108 t109 w0 _ ?side1 ?side2 A9.out).mono ?_); (case side1 => repeat (first | (with_reducible first | exact HI0.out | apply IsS155.alloc | apply IsS155.drewN | apply IsS155.drew | apply IsS155.set_0 | apply IsS155.set_1 | apply IsS155.set_2) | exact HI0.out)); (case side2 => repeat (first | (with_reducible first | exact HB.out | apply below_alloc | apply pw_below_drewN | apply below_drew1 | refine below_set ?_ (IsS155.ge HI0.out)) | exact HB.out)); rintro e w10 ⟨rfl, hi, hb, hk⟩; have n0_ := Aside0.mk (KeepBut.trans (by repeat (first | (with_reducible first | exact HK.out | apply KeepBut.set_ | apply keep_drewN | apply keep_drew | apply keep_alloc) | exact HK.out)) hk (.inl rfl)); have n1_ := Aside0.mk (hb); have n2_ := Aside0.mk (hi); clear HK; clear HB; clear HI0; have HK := n0_; have HB := n1_; have HI0 := n2_; clear n0_ n1_ n2_; (try clear hb); (try clear hb2); (try clear hk); (try clear hi)))
          go_meet
          case rel => exact ⟨_, (decide (a1 > t106)), (t107), (t108), (t109), (by first | rfl | (simp; done) | (simp [*]; done)), H', ⟨by first | omega | exact Nat.le_refl _⟩, ⟨by repeat (first | (with_reducible first | exact HI0.out | apply IsS155.alloc | apply IsS155.drewN | apply IsS155.drew | apply IsS155.set_0 | apply IsS155.set_1 | apply IsS155.set_2) | exact HI0.out)⟩, ⟨by repeat (first | (with_reducible first | exact HK.out | apply KeepBut.set_ | apply keep_drewN | apply keep_drew | apply keep_alloc) | exact HK.out)⟩, ⟨by repeat (first | (with_reducible first | exact HB.out | apply below_alloc | apply pw_below_drewN | apply below_drew1 | refine below_set ?_ (IsS155.ge HI0.out)) | exact HB.out)⟩⟩
    case rest =>
      clear HC5
      try clear c1
      try clear p2
      try clear c4
      try clear c7
      try clear c7b0
      try clear c8
      try clear c8b0
      obtain ⟨kq, x22_4, x1000_4, x1001_4, x1002_4, rfl, HA, HJ4, HI0, HK, HB⟩ := hcut
      cases kq with
      | zero => exact absurd HA.out (by simp [bits_Reader_Bits.j0])
      | succ kj4 =>
        have H := HA.out
        clear HA
        simp only [bits_Reader_Bits.j0] at H
        by_cases c11 : x22_4 = true
        · subst c11
          have H1 : (some (0, x1000_4, x1001_4, true)) = some (r1, r2, r3, r4) := by rw [if_pos rfl] at H; exact H
          clear H
          have H := H1
          clear H1
          simp only [Option.some.injEq, Prod.mk.injEq] at H
          obtain ⟨rfl, rfl, rfl, rfl⟩ := H
          obtain ⟨HGz12, hgz12⟩ := HI0.out
          have hcz12_0 := cellS155_0 HGz12
          have hcz12_1 := cellS155_1 HGz12
          have hcz12_2 := cellS155_2 HGz12
          have hfz12_0 := blk_frozen HGz12 0
          have hfz12_1 := blk_frozen HGz12 1
          have hfz12_2 := blk_frozen HGz12 2
          clear HGz12 hgz12
          go_wp2
          go_ret
          exact ⟨by first | rfl | (simp [errW_none, errW_some] <;> rfl) | (simp [*, errW_none, errW_some] <;> rfl), by repeat (first | (with_reducible first | exact HI0.out | apply IsS155.alloc | apply IsS155.drewN | apply IsS155.drew | apply IsS155.set_0 | apply IsS155.set_1 | apply IsS155.set_2) | exact HI0.out), by repeat (first | (with_reducible first | exact HB.out | apply below_alloc | apply pw_below_drewN | apply below_drew1 | refine below_set ?_ (IsS155.ge HI0.out)) | exact HB.out), by repeat (first | (with_reducible first | exact HK.out | apply KeepBut.set_ | apply keep_drewN | apply keep_drew | apply keep_alloc) | exact HK.out)⟩
        · replace c11 := Bool.eq_false_iff.mpr c11
          subst c11
          have H1 : (bits_Reader_Bits.l0 kj4 a1 0 0 (wrap64 (Int.tdiv x1001_4 8)) x1000_4 x1001_4 x1002_4) = some (r1, r2, r3, r4) := by rw [if_neg (show ¬ (false = true) by decide)] at H; exact H
          clear H
          have H := H1
          clear H1
          have H' := Aside0.mk H
          clear H
          obtain ⟨HGz13, hgz13⟩ := HI0.out
          have hcz13_0 := cellS155_0 HGz13
          have hcz13_1 := cellS155_1 HGz13
          have hcz13_2 := cellS155_2 HGz13
          have hfz13_0 := blk_frozen HGz13 0
          have hfz13_1 := blk_frozen HGz13 1
          have hfz13_2 := blk_frozen HGz13 2
          clear HGz13 hgz13
          go_wp2
          go_loopg [5, 6, 7] kj4 (fun kq v5 v6 v7 w' => ∃ (x5_2 : Int) (x6_2 : Int) (x7_2 : Int), v5 = .int .u64 x5_2 ∧ v6 = .int .i64 x6_2 ∧ v7 = .int .i64 x7_2 ∧ Aside0 (bits_Reader_Bits.l0 kq a1 x5_2 x6_2 x7_2 x1000_4 x1001_4 x1002_4 = some (r1, r2, r3, r4)) ∧ Aside0 (kq ≤ kj4) ∧ Aside0 (IsS155 w0 w' g x1000_4 x1001_4 x1002_4) ∧ Aside0 (KeepBut w w' g none) ∧ Aside0 (Below w0.heap.size w0 w'))
          case atStart => exact ⟨(0), (0), (wrap64 (Int.tdiv x1001_4 8)), (by first | rfl | (simp; done) | (simp [*]; done)), (by first | rfl | (simp; done) | (simp [*]; done)), (by first | rfl | (simp; done) | (simp [*]; done)), H', ⟨Nat.le_refl _⟩, ⟨by repeat (first | (with_reducible first | exact HI0.out | apply IsS155.alloc | apply IsS155.drewN | apply IsS155.drew | apply IsS155.set_0 | apply IsS155.set_1 | apply IsS155.set_2) | exact HI0.out)⟩, ⟨by repeat (first | (with_reducible first | exact HK.out | apply KeepBut.set_ | apply keep_drewN | apply keep_drew | apply keep_alloc) | exact HK.out)⟩, ⟨by repeat (first | (with_reducible first | exact HB.out | apply below_alloc | apply pw_below_drewN | apply below_drew1 | refine below_set ?_ (IsS155.ge HI0.out)) | exact HB.out)⟩⟩
          case round =>
            clear H'
            try clear c1
            try clear p2
            try clear c4
            try clear p6
            try clear c7
            try clear c7b0
            try clear c8
            try clear c8b0
            try clear c11
            try clear c13
            try clear hcz12_0
            try clear hcz12_1
            try clear hcz12_2
            try clear hcz13_0
            try clear hcz13_1
            try clear hcz13_2
            try clear hfz12_0
            try clear hfz12_1
            try clear hfz12_2
            try clear hfz13_0
            try clear hfz13_1
            try clear hfz13_2
            try clear p2
            obtain ⟨x5_2, x6_2, x7_2, rfl, rfl, rfl, HA, HK2, HI0, HK, HB⟩ := hrel
            cases gk with
            | zero => exact absurd HA.out (by simp [bits_Reader_Bits.l0])
            | succ k2 =>
              have H := HA.out
              clear HA
              simp only [bits_Reader_Bits.l0] at H
              by_cases c14 : x6_2 < (wrap64 (a1 + (Int.tmod x1001_4 8)))
              · rw [if_pos c14] at H
                have c14b0 : decide (x6_2 < (wrap64 (a1 + (Int.tmod x1001_4 8)))) = true := decide_eq_true c14
                clear c14
                by_cases c15 : 0 ≤ x7_2
                · rw [if_pos c15] at H
                  have c15b0 : decide (0 ≤ x7_2) = true := decide_eq_true c15
                  clear c15
                  by_cases c16 : x7_2 < (x1000_4.size : Int)
                  · rw [if_pos c16] at H
                    have c16b0 : decide (x7_2 < (x1000_4.size : Int)) = true := decide_eq_true c16
                    clear c16
                    by_cases c18 : 0 ≤ x6_2
                    · rw [if_pos c18] at H
                      have c18b0 := eq_true c18
                      have c18b1 : decide (0 ≤ x6_2) = true := decide_eq_true c18
                      clear c18
                      obtain ⟨ji19, hji19⟩ : ∃ j_ : Int, (shl .u64 (IntKind.u64.wrap (bt x1000_4 x7_2)) x6_2) = j_ := ⟨_, rfl⟩
                      replace H : (bits_Reader_Bits.l0 k2 a1 (Go.bits .or .u64 x5_2 (ji19)) (wrap64 (x6_2 + 8)) (wrap64 (x7_2 + 1)) x1000_4 x1001_4 x1002_4) = some (r1, r2, r3, r4) := by first | (rw [hji19] at H; exact H) | (simp only [hji19] at H ⊢; exact H)
                      have hji19_ : (IntKind.u64.wrap ((IntKind.u64.wrap (bt x1000_4 x7_2)) * 2 ^ min x6_2.toNat 64)) = ji19 := hji19
                      have hji19z : x6_2 ≤ 64 → (IntKind.u64.wrap ((IntKind.u64.wrap (bt x1000_4 x7_2)) * 2 ^ x6_2.toNat)) = ji19 := shl_small hji19
                      have H' := Aside0.mk H
                      clear H
                      obtain ⟨HGz20, hgz20⟩ := HI0.out
                      have hcz20_0 := cellS155_0 HGz20
                      have hcz20_1 := cellS155_1 HGz20
                      have hcz20_2 := cellS155_2 HGz20
                      have hfz20_0 := blk_frozen HGz20 0
                      have hfz20_1 := blk_frozen HGz20 1
                      have hfz20_2 := blk_frozen HGz20 2
                      clear HGz20 hgz20
                      have p17 : 0 ≤ (x7_2 : Int) := of_decide_eq_true (by first | (with_reducible assumption) | assumption)
                      have q17 : x7_2 < (x1000_4.size : Int) := of_decide_eq_true (by first | (with_reducible assumption) | assumption)
                      have hx17 := bt_at x1000_4 x7_2
                      replace p17 := eq_true p17
                      replace q17 := eq_true q17
                      go_wp2
                      go_roundg k2
                      case measure => have := HJ4.out; have := HK2.out; omega
                      case rel => exact ⟨(Go.bits .or .u64 x5_2 (ji19)), (wrap64 (x6_2 + 8)), (wrap64 (x7_2 + 1)), (by first | rfl | (simp; done) | (simp only [← hji19] <;> (first | rfl | (simp; done) | (simp only [shl, shr, i64_w] <;> rfl))) | (simp [*]; done)), (by first | rfl | (simp; done) | (simp [*]; done)), (by first | rfl | (simp; done) | (simp [*]; done)), H', ⟨by have := HJ4.out; have := HK2.out; omega⟩, ⟨by repeat (first | (with_reducible first | exact HI0.out | apply IsS155.alloc | apply IsS155.drewN | apply IsS155.drew | apply IsS155.set_0 | apply IsS155.set_1 | apply IsS155.set_2) | exact HI0.out)⟩, ⟨by repeat (first | (with_reducible first | exact HK.out | apply KeepBut.set_ | apply keep_drewN | apply keep_drew | apply keep_alloc) | exact HK.out)⟩, ⟨by repeat (first | (with_reducible first | exact HB.out | apply below_alloc | apply pw_below_drewN | apply below_drew1 | refine below_set ?_ (IsS155.ge HI0.out)) | exact HB.out)⟩⟩
                    · rw [if_neg c18] at H
                      exact absurd H (by simp)
                  · rw [if_neg c16] at H
                    exact absurd H (by simp)
                · rw [if_neg c15] at H
                  exact absurd H (by simp)
              · rw [if_neg c14] at H
                have c14b0 : decide (x6_2 < (wrap64 (a1 + (Int.tmod x1001_4 8)))) = false := decide_eq_false c14
                clear c14
                obtain ⟨ji21, hji21⟩ : ∃ j_ : Int, (Int.tmod x1001_4 8) = j_ := ⟨_, rfl⟩
                replace H : (if 0 ≤ (ji21) then (if 0 ≤ a1 then (some ((Go.bits .and .u64 (shr .u64 x5_2 (ji21)) (IntKind.u64.wrap ((shl .u64 1 a1) - 1))) % 4294967296, x1000_4, wrap64 (x1001_4 + a1), x1002_4)) else (none)) else (none)) = some (r1, r2, r3, r4) := by first | (rw [hji21] at H; exact H) | (simp only [hji21] at H ⊢; exact H)
                (try rw [hji21] at c14b0)
                by_cases c22 : 0 ≤ (ji21)
                · rw [if_pos c22] at H
                  have c22b0 := eq_true c22
                  have c22b1 : decide (0 ≤ (ji21)) = true := decide_eq_true c22
                  clear c22
                  obtain ⟨ji23, hji23⟩ : ∃ j_ : Int, (shr .u64 x5_2 (ji21)) = j_ := ⟨_, rfl⟩
                  replace H : (if 0 ≤ a1 then (some ((Go.bits .and .u64 (ji23) (IntKind.u64.wrap ((shl .u64 1 a1) - 1))) % 4294967296, x1000_4, wrap64 (x1001_4 + a1), x1002_4)) else (none)) = some (r1, r2, r3, r4) := by first | (rw [hji23] at H; exact H) | (simp only [hji23] at H ⊢; exact H)
                  have hji23_ : (x5_2 / 2 ^ min (ji21).toNat 64) = ji23 := hji23
                  have hji23z : (ji21) ≤ 64 → (x5_2 / 2 ^ (ji21).toNat) = ji23 := shr_small hji23
                  by_cases c24 : 0 ≤ a1
                  · rw [if_pos c24] at H
                    have c24b0 := eq_true c24
                    have c24b1 : decide (0 ≤ a1) = true := decide_eq_true c24
                    clear c24
                    obtain ⟨ji25, hji25⟩ : ∃ j_ : Int, (shl .u64 1 a1) = j_ := ⟨_, rfl⟩
                    replace H : (some ((Go.bits .and .u64 (ji23) (IntKind.u64.wrap ((ji25) - 1))) % 4294967296, x1000_4, wrap64 (x1001_4 + a1), x1002_4)) = some (r1, r2, r3, r4) := by first | (rw [hji25] at H; exact H) | (simp only [hji25] at H ⊢; exact H)
                    have hji25_ : (IntKind.u64.wrap (1 * 2 ^ min a1.toNat 64)) = ji25 := hji25
                    have hji25z : a1 ≤ 64 → (IntKind.u64.wrap (1 * 2 ^ a1.toNat)) = ji25 := shl_small hji25
                    have hji25u : (IntKind.u64.wrap (2 ^ min a1.toNat 64)) = ji25 := by have h_ := hji25_; rw [Int.one_mul] at h_; exact h_
                    have hji25v : a1 ≤ 64 → (IntKind.u64.wrap (2 ^ a1.toNat)) = ji25 := fun hle_ => by have h_ := hji25z hle_; rw [Int.one_mul] at h_; exact h_
                    simp only [Option.some.injEq, Prod.mk.injEq] at H
                    obtain ⟨rfl, rfl, rfl, rfl⟩ := H
                    obtain ⟨HGz26, hgz26⟩ := HI0.out
                    have hcz26_0 := cellS155_0 HGz26
                    have hcz26_1 := cellS155_1 HGz26
                    have hcz26_2 := cellS155_2 HGz26
                    have hfz26_0 := blk_frozen HGz26 0
                    have hfz26_1 := blk_frozen HGz26 1
                    have hfz26_2 := blk_frozen HGz26 2
                    clear HGz26 hgz26
                    go_wp2
                    go_ret
                    exact ⟨by first | rfl | (simp [errW_none, errW_some] <;> rfl) | (simp only [← hji21, ← hji23, ← hji25]; first | rfl | (simp [errW_none, errW_some] <;> rfl)) | (simp [*, errW_none, errW_some] <;> rfl), by repeat (first | (with_reducible first | exact HI0.out | apply IsS155.alloc | apply IsS155.drewN | apply IsS155.drew | apply IsS155.set_0 | apply IsS155.set_1 | apply IsS155.set_2) | exact HI0.out), by repeat (first | (with_reducible first | exact HB.out | apply below_alloc | apply pw_below_drewN | apply below_drew1 | refine below_set ?_ (IsS155.ge HI0.out)) | exact HB.out), by repeat (first | (with_reducible first | exact HK.out | apply KeepBut.set_ | apply keep_drewN | apply keep_drew | apply keep_alloc) | exact HK.out)⟩
                  · rw [if_neg c24] at H
                    exact absurd H (by simp)
                · rw [if_neg c22] at H
                  exact absurd H (by simp)
  · replace c4 := Bool.eq_false_iff.mpr c4
    subst c4
    have H1 : (some (0, t103, t104, t105)) = some (r1, r2, r3, r4) := by rw [if_neg (show ¬ (false = true) by decide)] at H; exact H
    clear H
    have H := H1
    clear H1
    simp only [Option.some.injEq, Prod.mk.injEq] at H
    obtain ⟨rfl, rfl, rfl, rfl⟩ := H
    go_enter Try.func136, Try.ntmps136
    go_wp2_with (first | ((with_reducible refine gate_callee (f := 153) rfl ?_); refine goesL_ (some 9) rfl rfl Try.func153 (by kernel_rfl) rfl #[.pointer (some ⟨g, 0, none⟩)] rfl (by (try simp only [List.map_toArray, List.map_cons, List.map_nil]); first | done | rfl | (simp only [List.length_drop, List.length_take]; rfl)) ?_; (with_reducible refine (bits_Reader_live.calls g s0_0 s0_1 s0_2 false t103 t104 t105 w0 _ ?side1 ?side2 A3.out).mono ?_); (case side1 => repeat (first | (with_reducible first | exact HI0.out | apply IsS155.alloc | apply IsS155.drewN | apply IsS155.drew | apply IsS155.set_0 | apply IsS155.set_1 | apply IsS155.set_2) | exact HI0.out)); (case side2 => repeat (first | (with_reducible first | exact HB.out | apply below_alloc | apply pw_below_drewN | apply below_drew1 | refine below_set ?_ (IsS155.ge HI0.out)) | exact HB.out)); rintro e w27 ⟨rfl, hi, hb, hk⟩; refine ⟨_, rfl, ?_⟩; have n0_ := Aside0.mk (KeepBut.trans (by repeat (first | (with_reducible first | exact HK.out | apply KeepBut.set_ | apply keep_drewN | apply keep_drew | apply keep_alloc) | exact HK.out)) hk (.inl rfl)); have n1_ := Aside0.mk (hb); have n2_ := Aside0.mk (hi); clear HK; clear HB; clear HI0; have HK := n0_; have HB := n1_; have HI0 := n2_; clear n0_ n1_ n2_; (try clear hb); (try clear hb2); (try clear hk); (try clear hi)))
    go_ret
    exact ⟨by first | rfl | (simp [errW_none, errW_some] <;> rfl) | (simp [*, errW_none, errW_some] <;> rfl), by repeat (first | (with_reducible first | exact HI0.out | apply IsS155.alloc | apply IsS155.drewN | apply IsS155.drew | apply IsS155.set_0 | apply IsS155.set_1 | apply IsS155.set_2) | exact HI0.out), by repeat (first | (with_reducible first | exact HB.out | apply below_alloc | apply pw_below_drewN | apply below_drew1 | refine below_set ?_ (IsS155.ge HI0.out)) | exact HB.out), by repeat (first | (with_reducible first | exact HK.out | apply KeepBut.set_ | apply keep_drewN | apply keep_drew | apply keep_alloc) | exact HK.out)⟩

/-! ### bits_Reader_Err: function 137 -/
def bits_Reader_Err.f (s0_0 : ByteArray) (s0_1 : Int) (s0_2 : Bool) : Option (Int × ByteArray × Int × Bool) := (bits_Reader_live.f s0_0 s0_1 s0_2).bind fun bt110 => (if bt110.1 = true then (some (0, bt110.2.1, bt110.2.2.1, bt110.2.2.2)) else (some (3, bt110.2.1, bt110.2.2.1, bt110.2.2.2)))
set_option maxHeartbeats 8000000 in
set_option maxRecDepth 100000 in
theorem bits_Reader_Err.calls (g : Nat) (s0_0 : ByteArray) (s0_1 : Int) (s0_2 : Bool) (r1 : Int) (r2 : ByteArray) (r3 : Int) (r4 : Bool) (w0 w : World) (hI : IsS155 w0 w g s0_0 s0_1 s0_2) (hB : Below w0.heap.size w0 w) (h : bits_Reader_Err.f s0_0 s0_1 s0_2 = some (r1, r2, r3, r4)) :
    Calls Try.prog 137 #[.pointer (some ⟨g, 0, none⟩)] w fun e w' => e = .returned (.int .i64 r1) ∧ IsS155 w0 w' g r2 r3 r4 ∧ Below w0.heap.size w0 w' ∧ KeepBut w w' g none := by
  have HI0 := Aside0.mk hI
  have HK := Aside0.mk (KeepBut.refl w g none)
  have HL := Aside0.mk hB.size
  clear hI
  have HW0 := Aside0.mk hB.size
  have HB := Aside0.mk hB
  clear hB
  have H : ((bits_Reader_live.f s0_0 s0_1 s0_2).bind fun bt110 => (if bt110.1 = true then (some (0, bt110.2.1, bt110.2.2.1, bt110.2.2.2)) else (some (3, bt110.2.1, bt110.2.2.1, bt110.2.2.2)))) = some (r1, r2, r3, r4) := h
  clear h
  replace H := Option.bind_eq_some_iff.mp H
  obtain ⟨⟨t110, t111, t112, t113⟩, A20, H⟩ := H
  replace H : (if t110 = true then (some (0, t111, t112, t113)) else (some (3, t111, t112, t113))) = some (r1, r2, r3, r4) := H
  have A2 := Aside0.mk A20
  clear A20
  by_cases c3 : t110 = true
  · subst c3
    have H1 : (some (0, t111, t112, t113)) = some (r1, r2, r3, r4) := by rw [if_pos rfl] at H; exact H
    clear H
    have H := H1
    clear H1
    simp only [Option.some.injEq, Prod.mk.injEq] at H
    obtain ⟨rfl, rfl, rfl, rfl⟩ := H
    go_enter Try.func137, Try.ntmps137
    go_wp2_with (first | ((with_reducible refine gate_callee (f := 153) rfl ?_); refine goesL_ (some 4) rfl rfl Try.func153 (by kernel_rfl) rfl #[.pointer (some ⟨g, 0, none⟩)] rfl (by (try simp only [List.map_toArray, List.map_cons, List.map_nil]); first | done | rfl | (simp only [List.length_drop, List.length_take]; rfl)) ?_; (with_reducible refine (bits_Reader_live.calls g s0_0 s0_1 s0_2 true t111 t112 t113 w0 _ ?side1 ?side2 A2.out).mono ?_); (case side1 => repeat (first | (with_reducible first | exact HI0.out | apply IsS155.alloc | apply IsS155.drewN | apply IsS155.drew | apply IsS155.set_0 | apply IsS155.set_1 | apply IsS155.set_2) | exact HI0.out)); (case side2 => repeat (first | (with_reducible first | exact HB.out | apply below_alloc | apply pw_below_drewN | apply below_drew1 | refine below_set ?_ (IsS155.ge HI0.out)) | exact HB.out)); rintro e w4 ⟨rfl, hi, hb, hk⟩; refine ⟨_, rfl, ?_⟩; have n0_ := Aside0.mk (KeepBut.trans (by repeat (first | (with_reducible first | exact HK.out | apply KeepBut.set_ | apply keep_drewN | apply keep_drew | apply keep_alloc) | exact HK.out)) hk (.inl rfl)); have n1_ := Aside0.mk (hb); have n2_ := Aside0.mk (hi); clear HK; clear HB; clear HI0; have HK := n0_; have HB := n1_; have HI0 := n2_; clear n0_ n1_ n2_; (try clear hb); (try clear hb2); (try clear hk); (try clear hi)))
    go_ret
    exact ⟨by first | rfl | (simp [errW_none, errW_some] <;> rfl) | (simp [*, errW_none, errW_some] <;> rfl), by repeat (first | (with_reducible first | exact HI0.out | apply IsS155.alloc | apply IsS155.drewN | apply IsS155.drew | apply IsS155.set_0 | apply IsS155.set_1 | apply IsS155.set_2) | exact HI0.out), by repeat (first | (with_reducible first | exact HB.out | apply below_alloc | apply pw_below_drewN | apply below_drew1 | refine below_set ?_ (IsS155.ge HI0.out)) | exact HB.out), by repeat (first | (with_reducible first | exact HK.out | apply KeepBut.set_ | apply keep_drewN | apply keep_drew | apply keep_alloc) | exact HK.out)⟩
  · replace c3 := Bool.eq_false_iff.mpr c3
    subst c3
    have H1 : (some (3, t111, t112, t113)) = some (r1, r2, r3, r4) := by rw [if_neg (show ¬ (false = true) by decide)] at H; exact H
    clear H
    have H := H1
    clear H1
    simp only [Option.some.injEq, Prod.mk.injEq] at H
    obtain ⟨rfl, rfl, rfl, rfl⟩ := H
    go_enter Try.func137, Try.ntmps137
    go_wp2_with (first | ((with_reducible refine gate_callee (f := 153) rfl ?_); refine goesL_ (some 4) rfl rfl Try.func153 (by kernel_rfl) rfl #[.pointer (some ⟨g, 0, none⟩)] rfl (by (try simp only [List.map_toArray, List.map_cons, List.map_nil]); first | done | rfl | (simp only [List.length_drop, List.length_take]; rfl)) ?_; (with_reducible refine (bits_Reader_live.calls g s0_0 s0_1 s0_2 false t111 t112 t113 w0 _ ?side1 ?side2 A2.out).mono ?_); (case side1 => repeat (first | (with_reducible first | exact HI0.out | apply IsS155.alloc | apply IsS155.drewN | apply IsS155.drew | apply IsS155.set_0 | apply IsS155.set_1 | apply IsS155.set_2) | exact HI0.out)); (case side2 => repeat (first | (with_reducible first | exact HB.out | apply below_alloc | apply pw_below_drewN | apply below_drew1 | refine below_set ?_ (IsS155.ge HI0.out)) | exact HB.out)); rintro e w5 ⟨rfl, hi, hb, hk⟩; refine ⟨_, rfl, ?_⟩; have n0_ := Aside0.mk (KeepBut.trans (by repeat (first | (with_reducible first | exact HK.out | apply KeepBut.set_ | apply keep_drewN | apply keep_drew | apply keep_alloc) | exact HK.out)) hk (.inl rfl)); have n1_ := Aside0.mk (hb); have n2_ := Aside0.mk (hi); clear HK; clear HB; clear HI0; have HK := n0_; have HB := n1_; have HI0 := n2_; clear n0_ n1_ n2_; (try clear hb); (try clear hb2); (try clear hk); (try clear hi)))
    go_ret
    exact ⟨by first | rfl | (simp [errW_none, errW_some] <;> rfl) | (simp [*, errW_none, errW_some] <;> rfl), by repeat (first | (with_reducible first | exact HI0.out | apply IsS155.alloc | apply IsS155.drewN | apply IsS155.drew | apply IsS155.set_0 | apply IsS155.set_1 | apply IsS155.set_2) | exact HI0.out), by repeat (first | (with_reducible first | exact HB.out | apply below_alloc | apply pw_below_drewN | apply below_drew1 | refine below_set ?_ (IsS155.ge HI0.out)) | exact HB.out), by repeat (first | (with_reducible first | exact HK.out | apply KeepBut.set_ | apply keep_drewN | apply keep_drew | apply keep_alloc) | exact HK.out)⟩

-- NOT PRINTED: function 118 (inflate_reader_number)

/-! ### bits_Reader_aligned: function 155 -/
def bits_Reader_aligned.f (s0_0 : ByteArray) (s0_1 : Int) (s0_2 : Bool) : Option (Int × ByteArray × Int × Bool) := some (Go.bits .andNot .i64 (wrap64 ((wrap64 (s0_1 + 8)) - 1)) 7, s0_0, s0_1, s0_2)
set_option maxHeartbeats 8000000 in
set_option maxRecDepth 100000 in
theorem bits_Reader_aligned.calls (g : Nat) (s0_0 : ByteArray) (s0_1 : Int) (s0_2 : Bool) (r1 : Int) (r2 : ByteArray) (r3 : Int) (r4 : Bool) (w0 w : World) (hI : IsS155 w0 w g s0_0 s0_1 s0_2) (hB : Below w0.heap.size w0 w) (h : bits_Reader_aligned.f s0_0 s0_1 s0_2 = some (r1, r2, r3, r4)) :
    Calls Try.prog 155 #[.pointer (some ⟨g, 0, none⟩)] w fun e w' => e = .returned (.int .i64 r1) ∧ IsS155 w0 w' g r2 r3 r4 ∧ Below w0.heap.size w0 w' ∧ KeepBut w w' g none := by
  have HI0 := Aside0.mk hI
  have HK := Aside0.mk (KeepBut.refl w g none)
  have HL := Aside0.mk hB.size
  clear hI
  have HW0 := Aside0.mk hB.size
  have HB := Aside0.mk hB
  clear hB
  have H : (some (Go.bits .andNot .i64 (wrap64 ((wrap64 (s0_1 + 8)) - 1)) 7, s0_0, s0_1, s0_2)) = some (r1, r2, r3, r4) := h
  clear h
  simp only [Option.some.injEq, Prod.mk.injEq] at H
  obtain ⟨rfl, rfl, rfl, rfl⟩ := H
  obtain ⟨HGz2, hgz2⟩ := HI0.out
  have hcz2_0 := cellS155_0 HGz2
  have hcz2_1 := cellS155_1 HGz2
  have hcz2_2 := cellS155_2 HGz2
  have hfz2_0 := blk_frozen HGz2 0
  have hfz2_1 := blk_frozen HGz2 1
  have hfz2_2 := blk_frozen HGz2 2
  clear HGz2 hgz2
  go_enter Try.func155, Try.ntmps155
  go_wp2
  go_ret
  exact ⟨by first | rfl | (simp [errW_none, errW_some] <;> rfl) | (simp [*, errW_none, errW_some] <;> rfl), by repeat (first | (with_reducible first | exact HI0.out | apply IsS155.alloc | apply IsS155.drewN | apply IsS155.drew | apply IsS155.set_0 | apply IsS155.set_1 | apply IsS155.set_2) | exact HI0.out), by repeat (first | (with_reducible first | exact HB.out | apply below_alloc | apply pw_below_drewN | apply below_drew1 | refine below_set ?_ (IsS155.ge HI0.out)) | exact HB.out), by repeat (first | (with_reducible first | exact HK.out | apply KeepBut.set_ | apply keep_drewN | apply keep_drew | apply keep_alloc) | exact HK.out)⟩

/-! ### bits_Reader_Align: function 138 -/
def bits_Reader_Align.f (s0_0 : ByteArray) (s0_1 : Int) (s0_2 : Bool) : Option (ByteArray × Int × Bool) := (bits_Reader_live.f s0_0 s0_1 s0_2).bind fun bt114 => (if bt114.1 = true then ((bits_Reader_aligned.f bt114.2.1 bt114.2.2.1 bt114.2.2.2).bind fun bt118 => (some (bt118.2.1, bt118.1, bt118.2.2.2))) else (some (bt114.2.1, bt114.2.2.1, bt114.2.2.2)))
set_option maxHeartbeats 8000000 in
set_option maxRecDepth 100000 in
theorem bits_Reader_Align.calls (g : Nat) (s0_0 : ByteArray) (s0_1 : Int) (s0_2 : Bool) (r1 : ByteArray) (r2 : Int) (r3 : Bool) (w0 w : World) (hI : IsS155 w0 w g s0_0 s0_1 s0_2) (hB : Below w0.heap.size w0 w) (h : bits_Reader_Align.f s0_0 s0_1 s0_2 = some (r1, r2, r3)) :
    Calls Try.prog 138 #[.pointer (some ⟨g, 0, none⟩)] w fun e w' => e = .returned (.tuple #[]) ∧ IsS155 w0 w' g r1 r2 r3 ∧ Below w0.heap.size w0 w' ∧ KeepBut w w' g none := by
  have HI0 := Aside0.mk hI
  have HK := Aside0.mk (KeepBut.refl w g none)
  have HL := Aside0.mk hB.size
  clear hI
  have HW0 := Aside0.mk hB.size
  have HB := Aside0.mk hB
  clear hB
  have H : ((bits_Reader_live.f s0_0 s0_1 s0_2).bind fun bt114 => (if bt114.1 = true then ((bits_Reader_aligned.f bt114.2.1 bt114.2.2.1 bt114.2.2.2).bind fun bt118 => (some (bt118.2.1, bt118.1, bt118.2.2.2))) else (some (bt114.2.1, bt114.2.2.1, bt114.2.2.2)))) = some (r1, r2, r3) := h
  clear h
  replace H := Option.bind_eq_some_iff.mp H
  obtain ⟨⟨t114, t115, t116, t117⟩, A20, H⟩ := H
  replace H : (if t114 = true then ((bits_Reader_aligned.f t115 t116 t117).bind fun bt118 => (some (bt118.2.1, bt118.1, bt118.2.2.2))) else (some (t115, t116, t117))) = some (r1, r2, r3) := H
  have A2 := Aside0.mk A20
  clear A20
  by_cases c3 : t114 = true
  · subst c3
    have H1 : ((bits_Reader_aligned.f t115 t116 t117).bind fun bt118 => (some (bt118.2.1, bt118.1, bt118.2.2.2))) = some (r1, r2, r3) := by rw [if_pos rfl] at H; exact H
    clear H
    have H := H1
    clear H1
    replace H := Option.bind_eq_some_iff.mp H
    obtain ⟨⟨t118, t119, t120, t121⟩, A40, H⟩ := H
    replace H : (some (t119, t118, t121)) = some (r1, r2, r3) := H
    have A4 := Aside0.mk A40
    clear A40
    simp only [Option.some.injEq, Prod.mk.injEq] at H
    obtain ⟨rfl, rfl, rfl⟩ := H
    go_enter Try.func138, Try.ntmps138
    go_wp2_with (first | ((with_reducible refine gate_callee (f := 153) rfl ?_); refine goesL_ (some 3) rfl rfl Try.func153 (by kernel_rfl) rfl #[.pointer (some ⟨g, 0, none⟩)] rfl (by (try simp only [List.map_toArray, List.map_cons, List.map_nil]); first | done | rfl | (simp only [List.length_drop, List.length_take]; rfl)) ?_; (with_reducible refine (bits_Reader_live.calls g s0_0 s0_1 s0_2 true t115 t116 t117 w0 _ ?side1 ?side2 A2.out).mono ?_); (case side1 => repeat (first | (with_reducible first | exact HI0.out | apply IsS155.alloc | apply IsS155.drewN | apply IsS155.drew | apply IsS155.set_0 | apply IsS155.set_1 | apply IsS155.set_2) | exact HI0.out)); (case side2 => repeat (first | (with_reducible first | exact HB.out | apply below_alloc | apply pw_below_drewN | apply below_drew1 | refine below_set ?_ (IsS155.ge HI0.out)) | exact HB.out)); rintro e w5 ⟨rfl, hi, hb, hk⟩; refine ⟨_, rfl, ?_⟩; have n0_ := Aside0.mk (KeepBut.trans (by repeat (first | (with_reducible first | exact HK.out | apply KeepBut.set_ | apply keep_drewN | apply keep_drew | apply keep_alloc) | exact HK.out)) hk (.inl rfl)); have n1_ := Aside0.mk (hb); have n2_ := Aside0.mk (hi); clear HK; clear HB; clear HI0; have HK := n0_; have HB := n1_; have HI0 := n2_; clear n0_ n1_ n2_; (try clear hb); (try clear hb2); (try clear hk); (try clear hi)) | ((with_reducible refine gate_callee (f := 155) rfl ?_); refine goesL_ (some 6) rfl rfl Try.func155 (by kernel_rfl) rfl #[.pointer (some ⟨g, 0, none⟩)] rfl (by (try simp only [List.map_toArray, List.map_cons, List.map_nil]); first | done | rfl | (simp only [List.length_drop, List.length_take]; rfl)) ?_; (with_reducible refine (bits_Reader_aligned.calls g t115 t116 t117 t118 t119 t120 t121 w0 _ ?side1 ?side2 A4.out).mono ?_); (case side1 => repeat (first | (with_reducible first | exact HI0.out | apply IsS155.alloc | apply IsS155.drewN | apply IsS155.drew | apply IsS155.set_0 | apply IsS155.set_1 | apply IsS155.set_2) | exact HI0.out)); (case side2 => repeat (first | (with_reducible first | exact HB.out | apply below_alloc | apply pw_below_drewN | apply below_drew1 | refine below_set ?_ (IsS155.ge HI0.out)) | exact HB.out)); rintro e w6 ⟨rfl, hi, hb, hk⟩; refine ⟨_, rfl, ?_⟩; have n0_ := Aside0.mk (KeepBut.trans (by repeat (first | (with_reducible first | exact HK.out | apply KeepBut.set_ | apply keep_drewN | apply keep_drew | apply keep_alloc) | exact HK.out)) hk (.inl rfl)); have n1_ := Aside0.mk (hb); have n2_ := Aside0.mk (hi); clear HK; clear HB; clear HI0; have HK := n0_; have HB := n1_; have HI0 := n2_; clear n0_ n1_ n2_; (try clear hb); (try clear hb2); (try clear hk); (try clear hi); obtain ⟨HGz7, hgz7⟩ := HI0.out; have hcz7_0 := cellS155_0 HGz7; have hcz7_1 := cellS155_1 HGz7; have hcz7_2 := cellS155_2 HGz7; have hfz7_0 := blk_frozen HGz7 0; have hfz7_1 := blk_frozen HGz7 1; have hfz7_2 := blk_frozen HGz7 2; clear HGz7 hgz7))
    first | go_end0 | ((try simp only [Exit.inBlock, Exit.then]); refine bodyPost_ret (results_none rfl _ _ _) rfl ?_)
    exact ⟨by first | rfl | (simp [errW_none, errW_some] <;> rfl) | (simp [*, errW_none, errW_some] <;> rfl), by repeat (first | (with_reducible first | exact HI0.out | apply IsS155.alloc | apply IsS155.drewN | apply IsS155.drew | apply IsS155.set_0 | apply IsS155.set_1 | apply IsS155.set_2) | exact HI0.out), by repeat (first | (with_reducible first | exact HB.out | apply below_alloc | apply pw_below_drewN | apply below_drew1 | refine below_set ?_ (IsS155.ge HI0.out)) | exact HB.out), by repeat (first | (with_reducible first | exact HK.out | apply KeepBut.set_ | apply keep_drewN | apply keep_drew | apply keep_alloc) | exact HK.out)⟩
  · replace c3 := Bool.eq_false_iff.mpr c3
    subst c3
    have H1 : (some (t115, t116, t117)) = some (r1, r2, r3) := by rw [if_neg (show ¬ (false = true) by decide)] at H; exact H
    clear H
    have H := H1
    clear H1
    simp only [Option.some.injEq, Prod.mk.injEq] at H
    obtain ⟨rfl, rfl, rfl⟩ := H
    go_enter Try.func138, Try.ntmps138
    go_wp2_with (first | ((with_reducible refine gate_callee (f := 153) rfl ?_); refine goesL_ (some 3) rfl rfl Try.func153 (by kernel_rfl) rfl #[.pointer (some ⟨g, 0, none⟩)] rfl (by (try simp only [List.map_toArray, List.map_cons, List.map_nil]); first | done | rfl | (simp only [List.length_drop, List.length_take]; rfl)) ?_; (with_reducible refine (bits_Reader_live.calls g s0_0 s0_1 s0_2 false t115 t116 t117 w0 _ ?side1 ?side2 A2.out).mono ?_); (case side1 => repeat (first | (with_reducible first | exact HI0.out | apply IsS155.alloc | apply IsS155.drewN | apply IsS155.drew | apply IsS155.set_0 | apply IsS155.set_1 | apply IsS155.set_2) | exact HI0.out)); (case side2 => repeat (first | (with_reducible first | exact HB.out | apply below_alloc | apply pw_below_drewN | apply below_drew1 | refine below_set ?_ (IsS155.ge HI0.out)) | exact HB.out)); rintro e w8 ⟨rfl, hi, hb, hk⟩; refine ⟨_, rfl, ?_⟩; have n0_ := Aside0.mk (KeepBut.trans (by repeat (first | (with_reducible first | exact HK.out | apply KeepBut.set_ | apply keep_drewN | apply keep_drew | apply keep_alloc) | exact HK.out)) hk (.inl rfl)); have n1_ := Aside0.mk (hb); have n2_ := Aside0.mk (hi); clear HK; clear HB; clear HI0; have HK := n0_; have HB := n1_; have HI0 := n2_; clear n0_ n1_ n2_; (try clear hb); (try clear hb2); (try clear hk); (try clear hi)))
    first | go_end0 | ((try simp only [Exit.inBlock, Exit.then]); refine bodyPost_ret (results_none rfl _ _ _) rfl ?_)
    exact ⟨by first | rfl | (simp [errW_none, errW_some] <;> rfl) | (simp [*, errW_none, errW_some] <;> rfl), by repeat (first | (with_reducible first | exact HI0.out | apply IsS155.alloc | apply IsS155.drewN | apply IsS155.drew | apply IsS155.set_0 | apply IsS155.set_1 | apply IsS155.set_2) | exact HI0.out), by repeat (first | (with_reducible first | exact HB.out | apply below_alloc | apply pw_below_drewN | apply below_drew1 | refine below_set ?_ (IsS155.ge HI0.out)) | exact HB.out), by repeat (first | (with_reducible first | exact HK.out | apply KeepBut.set_ | apply keep_drewN | apply keep_drew | apply keep_alloc) | exact HK.out)⟩

/-! ### bits_Reader_Bytes: function 139 -/
def bits_Reader_Bytes.f (s0_0 : ByteArray) (s0_1 : Int) (s0_2 : Bool) (a1 : Int) : Option (ByteArray × ByteArray × Int × Bool) := (bits_Reader_live.f s0_0 s0_1 s0_2).bind fun bt122 => (if bt122.1 = true then ((bits_Reader_aligned.f bt122.2.1 bt122.2.2.1 bt122.2.2.2).bind fun bt126 => (if a1 < 0 then (some ((⟨#[]⟩ : ByteArray), bt126.2.1, bt126.2.2.1, true)) else (if a1 > (wrap64 ((bt126.2.1.size : Int) - (wrap64 (Int.tdiv bt126.1 8)))) then (some ((⟨#[]⟩ : ByteArray), bt126.2.1, bt126.2.2.1, true)) else (if 0 ≤ (wrap64 (Int.tdiv bt126.1 8)) then (if (wrap64 (Int.tdiv bt126.1 8)) ≤ (wrap64 ((wrap64 (Int.tdiv bt126.1 8)) + a1)) then (if (wrap64 ((wrap64 (Int.tdiv bt126.1 8)) + a1)) ≤ (bt126.2.1.size : Int) then (some (bt126.2.1.extract ((wrap64 (Int.tdiv bt126.1 8)) : Int).toNat ((wrap64 ((wrap64 (Int.tdiv bt126.1 8)) + a1)) : Int).toNat, bt126.2.1, wrap64 (8 * (wrap64 ((wrap64 (Int.tdiv bt126.1 8)) + a1))), bt126.2.2.2)) else (none)) else (none)) else (none))))) else (some ((⟨#[]⟩ : ByteArray), bt122.2.1, bt122.2.2.1, bt122.2.2.2)))
set_option maxHeartbeats 8000000 in
set_option maxRecDepth 100000 in
theorem bits_Reader_Bytes.calls (g : Nat) (s0_0 : ByteArray) (s0_1 : Int) (s0_2 : Bool) (a1 : Int) (r1 : ByteArray) (r2 : ByteArray) (r3 : Int) (r4 : Bool) (w0 w : World) (hI : IsS155 w0 w g s0_0 s0_1 s0_2) (hB : Below w0.heap.size w0 w) (h : bits_Reader_Bytes.f s0_0 s0_1 s0_2 a1 = some (r1, r2, r3, r4)) :
    Calls Try.prog 139 #[.pointer (some ⟨g, 0, none⟩), .int .i64 a1] w fun e w' => e = .returned (.string r1) ∧ IsS155 w0 w' g r2 r3 r4 ∧ Below w0.heap.size w0 w' ∧ KeepBut w w' g none := by
  have HI0 := Aside0.mk hI
  have HK := Aside0.mk (KeepBut.refl w g none)
  have HL := Aside0.mk hB.size
  clear hI
  have HW0 := Aside0.mk hB.size
  have HB := Aside0.mk hB
  clear hB
  have H : ((bits_Reader_live.f s0_0 s0_1 s0_2).bind fun bt122 => (if bt122.1 = true then ((bits_Reader_aligned.f bt122.2.1 bt122.2.2.1 bt122.2.2.2).bind fun bt126 => (if a1 < 0 then (some ((⟨#[]⟩ : ByteArray), bt126.2.1, bt126.2.2.1, true)) else (if a1 > (wrap64 ((bt126.2.1.size : Int) - (wrap64 (Int.tdiv bt126.1 8)))) then (some ((⟨#[]⟩ : ByteArray), bt126.2.1, bt126.2.2.1, true)) else (if 0 ≤ (wrap64 (Int.tdiv bt126.1 8)) then (if (wrap64 (Int.tdiv bt126.1 8)) ≤ (wrap64 ((wrap64 (Int.tdiv bt126.1 8)) + a1)) then (if (wrap64 ((wrap64 (Int.tdiv bt126.1 8)) + a1)) ≤ (bt126.2.1.size : Int) then (some (bt126.2.1.extract ((wrap64 (Int.tdiv bt126.1 8)) : Int).toNat ((wrap64 ((wrap64 (Int.tdiv bt126.1 8)) + a1)) : Int).toNat, bt126.2.1, wrap64 (8 * (wrap64 ((wrap64 (Int.tdiv bt126.1 8)) + a1))), bt126.2.2.2)) else (none)) else (none)) else (none))))) else (some ((⟨#[]⟩ : ByteArray), bt122.2.1, bt122.2.2.1, bt122.2.2.2)))) = some (r1, r2, r3, r4) := h
  clear h
  replace H := Option.bind_eq_some_iff.mp H
  obtain ⟨⟨t122, t123, t124, t125⟩, A30, H⟩ := H
  replace H : (if t122 = true then ((bits_Reader_aligned.f t123 t124 t125).bind fun bt126 => (if a1 < 0 then (some ((⟨#[]⟩ : ByteArray), bt126.2.1, bt126.2.2.1, true)) else (if a1 > (wrap64 ((bt126.2.1.size : Int) - (wrap64 (Int.tdiv bt126.1 8)))) then (some ((⟨#[]⟩ : ByteArray), bt126.2.1, bt126.2.2.1, true)) else (if 0 ≤ (wrap64 (Int.tdiv bt126.1 8)) then (if (wrap64 (Int.tdiv bt126.1 8)) ≤ (wrap64 ((wrap64 (Int.tdiv bt126.1 8)) + a1)) then (if (wrap64 ((wrap64 (Int.tdiv bt126.1 8)) + a1)) ≤ (bt126.2.1.size : Int) then (some (bt126.2.1.extract ((wrap64 (Int.tdiv bt126.1 8)) : Int).toNat ((wrap64 ((wrap64 (Int.tdiv bt126.1 8)) + a1)) : Int).toNat, bt126.2.1, wrap64 (8 * (wrap64 ((wrap64 (Int.tdiv bt126.1 8)) + a1))), bt126.2.2.2)) else (none)) else (none)) else (none))))) else (some ((⟨#[]⟩ : ByteArray), t123, t124, t125))) = some (r1, r2, r3, r4) := H
  have A3 := Aside0.mk A30
  clear A30
  by_cases c4 : t122 = true
  · subst c4
    have H1 : ((bits_Reader_aligned.f t123 t124 t125).bind fun bt126 => (if a1 < 0 then (some ((⟨#[]⟩ : ByteArray), bt126.2.1, bt126.2.2.1, true)) else (if a1 > (wrap64 ((bt126.2.1.size : Int) - (wrap64 (Int.tdiv bt126.1 8)))) then (some ((⟨#[]⟩ : ByteArray), bt126.2.1, bt126.2.2.1, true)) else (if 0 ≤ (wrap64 (Int.tdiv bt126.1 8)) then (if (wrap64 (Int.tdiv bt126.1 8)) ≤ (wrap64 ((wrap64 (Int.tdiv bt126.1 8)) + a1)) then (if (wrap64 ((wrap64 (Int.tdiv bt126.1 8)) + a1)) ≤ (bt126.2.1.size : Int) then (some (bt126.2.1.extract ((wrap64 (Int.tdiv bt126.1 8)) : Int).toNat ((wrap64 ((wrap64 (Int.tdiv bt126.1 8)) + a1)) : Int).toNat, bt126.2.1, wrap64 (8 * (wrap64 ((wrap64 (Int.tdiv bt126.1 8)) + a1))), bt126.2.2.2)) else (none)) else (none)) else (none))))) = some (r1, r2, r3, r4) := by rw [if_pos rfl] at H; exact H
    clear H
    have H := H1
    clear H1
    replace H := Option.bind_eq_some_iff.mp H
    obtain ⟨⟨t126, t127, t128, t129⟩, A50, H⟩ := H
    replace H : (if a1 < 0 then (some ((⟨#[]⟩ : ByteArray), t127, t128, true)) else (if a1 > (wrap64 ((t127.size : Int) - (wrap64 (Int.tdiv t126 8)))) then (some ((⟨#[]⟩ : ByteArray), t127, t128, true)) else (if 0 ≤ (wrap64 (Int.tdiv t126 8)) then (if (wrap64 (Int.tdiv t126 8)) ≤ (wrap64 ((wrap64 (Int.tdiv t126 8)) + a1)) then (if (wrap64 ((wrap64 (Int.tdiv t126 8)) + a1)) ≤ (t127.size : Int) then (some (t127.extract ((wrap64 (Int.tdiv t126 8)) : Int).toNat ((wrap64 ((wrap64 (Int.tdiv t126 8)) + a1)) : Int).toNat, t127, wrap64 (8 * (wrap64 ((wrap64 (Int.tdiv t126 8)) + a1))), t129)) else (none)) else (none)) else (none)))) = some (r1, r2, r3, r4) := H
    have A5 := Aside0.mk A50
    clear A50
    by_cases c6 : a1 < 0
    · rw [if_pos c6] at H
      have c6b0 : decide (a1 < 0) = true := decide_eq_true c6
      clear c6
      simp only [Option.some.injEq, Prod.mk.injEq] at H
      obtain ⟨rfl, rfl, rfl, rfl⟩ := H
      go_enter Try.func139, Try.ntmps139
      go_wp2_with (first | ((with_reducible refine gate_callee (f := 153) rfl ?_); refine goesL_ (some 7) rfl rfl Try.func153 (by kernel_rfl) rfl #[.pointer (some ⟨g, 0, none⟩)] rfl (by (try simp only [List.map_toArray, List.map_cons, List.map_nil]); first | done | rfl | (simp only [List.length_drop, List.length_take]; rfl)) ?_; (with_reducible refine (bits_Reader_live.calls g s0_0 s0_1 s0_2 true t123 t124 t125 w0 _ ?side1 ?side2 A3.out).mono ?_); (case side1 => repeat (first | (with_reducible first | exact HI0.out | apply IsS155.alloc | apply IsS155.drewN | apply IsS155.drew | apply IsS155.set_0 | apply IsS155.set_1 | apply IsS155.set_2) | exact HI0.out)); (case side2 => repeat (first | (with_reducible first | exact HB.out | apply below_alloc | apply pw_below_drewN | apply below_drew1 | refine below_set ?_ (IsS155.ge HI0.out)) | exact HB.out)); rintro e w7 ⟨rfl, hi, hb, hk⟩; refine ⟨_, rfl, ?_⟩; have n0_ := Aside0.mk (KeepBut.trans (by repeat (first | (with_reducible first | exact HK.out | apply KeepBut.set_ | apply keep_drewN | apply keep_drew | apply keep_alloc) | exact HK.out)) hk (.inl rfl)); have n1_ := Aside0.mk (hb); have n2_ := Aside0.mk (hi); clear HK; clear HB; clear HI0; have HK := n0_; have HB := n1_; have HI0 := n2_; clear n0_ n1_ n2_; (try clear hb); (try clear hb2); (try clear hk); (try clear hi)) | ((with_reducible refine gate_callee (f := 155) rfl ?_); refine goesL_ (some 10) rfl rfl Try.func155 (by kernel_rfl) rfl #[.pointer (some ⟨g, 0, none⟩)] rfl (by (try simp only [List.map_toArray, List.map_cons, List.map_nil]); first | done | rfl | (simp only [List.length_drop, List.length_take]; rfl)) ?_; (with_reducible refine (bits_Reader_aligned.calls g t123 t124 t125 t126 t127 t128 t129 w0 _ ?side1 ?side2 A5.out).mono ?_); (case side1 => repeat (first | (with_reducible first | exact HI0.out | apply IsS155.alloc | apply IsS155.drewN | apply IsS155.drew | apply IsS155.set_0 | apply IsS155.set_1 | apply IsS155.set_2) | exact HI0.out)); (case side2 => repeat (first | (with_reducible first | exact HB.out | apply below_alloc | apply pw_below_drewN | apply below_drew1 | refine below_set ?_ (IsS155.ge HI0.out)) | exact HB.out)); rintro e w8 ⟨rfl, hi, hb, hk⟩; refine ⟨_, rfl, ?_⟩; have n0_ := Aside0.mk (KeepBut.trans (by repeat (first | (with_reducible first | exact HK.out | apply KeepBut.set_ | apply keep_drewN | apply keep_drew | apply keep_alloc) | exact HK.out)) hk (.inl rfl)); have n1_ := Aside0.mk (hb); have n2_ := Aside0.mk (hi); clear HK; clear HB; clear HI0; have HK := n0_; have HB := n1_; have HI0 := n2_; clear n0_ n1_ n2_; (try clear hb); (try clear hb2); (try clear hk); (try clear hi); obtain ⟨HGz9, hgz9⟩ := HI0.out; have hcz9_0 := cellS155_0 HGz9; have hcz9_1 := cellS155_1 HGz9; have hcz9_2 := cellS155_2 HGz9; have hfz9_0 := blk_frozen HGz9 0; have hfz9_1 := blk_frozen HGz9 1; have hfz9_2 := blk_frozen HGz9 2; clear HGz9 hgz9))
      go_ret
      exact ⟨by first | rfl | (simp [errW_none, errW_some] <;> rfl) | (simp [*, errW_none, errW_some] <;> rfl), by repeat (first | (with_reducible first | exact HI0.out | apply IsS155.alloc | apply IsS155.drewN | apply IsS155.drew | apply IsS155.set_0 | apply IsS155.set_1 | apply IsS155.set_2) | exact HI0.out), by repeat (first | (with_reducible first | exact HB.out | apply below_alloc | apply pw_below_drewN | apply below_drew1 | refine below_set ?_ (IsS155.ge HI0.out)) | exact HB.out), by repeat (first | (with_reducible first | exact HK.out | apply KeepBut.set_ | apply keep_drewN | apply keep_drew | apply keep_alloc) | exact HK.out)⟩
    · rw [if_neg c6] at H
      have c6b0 : decide (a1 < 0) = false := decide_eq_false c6
      clear c6
      by_cases c10 : a1 > (wrap64 ((t127.size : Int) - (wrap64 (Int.tdiv t126 8))))
      · rw [if_pos c10] at H
        have c10b0 : decide ((wrap64 ((t127.size : Int) - (wrap64 (Int.tdiv t126 8)))) < a1) = true := decide_eq_true c10
        clear c10
        simp only [Option.some.injEq, Prod.mk.injEq] at H
        obtain ⟨rfl, rfl, rfl, rfl⟩ := H
        go_enter Try.func139, Try.ntmps139
        go_wp2_with (first | ((with_reducible refine gate_callee (f := 153) rfl ?_); refine goesL_ (some 7) rfl rfl Try.func153 (by kernel_rfl) rfl #[.pointer (some ⟨g, 0, none⟩)] rfl (by (try simp only [List.map_toArray, List.map_cons, List.map_nil]); first | done | rfl | (simp only [List.length_drop, List.length_take]; rfl)) ?_; (with_reducible refine (bits_Reader_live.calls g s0_0 s0_1 s0_2 true t123 t124 t125 w0 _ ?side1 ?side2 A3.out).mono ?_); (case side1 => repeat (first | (with_reducible first | exact HI0.out | apply IsS155.alloc | apply IsS155.drewN | apply IsS155.drew | apply IsS155.set_0 | apply IsS155.set_1 | apply IsS155.set_2) | exact HI0.out)); (case side2 => repeat (first | (with_reducible first | exact HB.out | apply below_alloc | apply pw_below_drewN | apply below_drew1 | refine below_set ?_ (IsS155.ge HI0.out)) | exact HB.out)); rintro e w11 ⟨rfl, hi, hb, hk⟩; refine ⟨_, rfl, ?_⟩; have n0_ := Aside0.mk (KeepBut.trans (by repeat (first | (with_reducible first | exact HK.out | apply KeepBut.set_ | apply keep_drewN | apply keep_drew | apply keep_alloc) | exact HK.out)) hk (.inl rfl)); have n1_ := Aside0.mk (hb); have n2_ := Aside0.mk (hi); clear HK; clear HB; clear HI0; have HK := n0_; have HB := n1_; have HI0 := n2_; clear n0_ n1_ n2_; (try clear hb); (try clear hb2); (try clear hk); (try clear hi)) | ((with_reducible refine gate_callee (f := 155) rfl ?_); refine goesL_ (some 10) rfl rfl Try.func155 (by kernel_rfl) rfl #[.pointer (some ⟨g, 0, none⟩)] rfl (by (try simp only [List.map_toArray, List.map_cons, List.map_nil]); first | done | rfl | (simp only [List.length_drop, List.length_take]; rfl)) ?_; (with_reducible refine (bits_Reader_aligned.calls g t123 t124 t125 t126 t127 t128 t129 w0 _ ?side1 ?side2 A5.out).mono ?_); (case side1 => repeat (first | (with_reducible first | exact HI0.out | apply IsS155.alloc | apply IsS155.drewN | apply IsS155.drew | apply IsS155.set_0 | apply IsS155.set_1 | apply IsS155.set_2) | exact HI0.out)); (case side2 => repeat (first | (with_reducible first | exact HB.out | apply below_alloc | apply pw_below_drewN | apply below_drew1 | refine below_set ?_ (IsS155.ge HI0.out)) | exact HB.out)); rintro e w12 ⟨rfl, hi, hb, hk⟩; refine ⟨_, rfl, ?_⟩; have n0_ := Aside0.mk (KeepBut.trans (by repeat (first | (with_reducible first | exact HK.out | apply KeepBut.set_ | apply keep_drewN | apply keep_drew | apply keep_alloc) | exact HK.out)) hk (.inl rfl)); have n1_ := Aside0.mk (hb); have n2_ := Aside0.mk (hi); clear HK; clear HB; clear HI0; have HK := n0_; have HB := n1_; have HI0 := n2_; clear n0_ n1_ n2_; (try clear hb); (try clear hb2); (try clear hk); (try clear hi); obtain ⟨HGz13, hgz13⟩ := HI0.out; have hcz13_0 := cellS155_0 HGz13; have hcz13_1 := cellS155_1 HGz13; have hcz13_2 := cellS155_2 HGz13; have hfz13_0 := blk_frozen HGz13 0; have hfz13_1 := blk_frozen HGz13 1; have hfz13_2 := blk_frozen HGz13 2; clear HGz13 hgz13))
        go_ret
        exact ⟨by first | rfl | (simp [errW_none, errW_some] <;> rfl) | (simp [*, errW_none, errW_some] <;> rfl), by repeat (first | (with_reducible first | exact HI0.out | apply IsS155.alloc | apply IsS155.drewN | apply IsS155.drew | apply IsS155.set_0 | apply IsS155.set_1 | apply IsS155.set_2) | exact HI0.out), by repeat (first | (with_reducible first | exact HB.out | apply below_alloc | apply pw_below_drewN | apply below_drew1 | refine below_set ?_ (IsS155.ge HI0.out)) | exact HB.out), by repeat (first | (with_reducible first | exact HK.out | apply KeepBut.set_ | apply keep_drewN | apply keep_drew | apply keep_alloc) | exact HK.out)⟩
      · rw [if_neg c10] at H
        have c10b0 : decide ((wrap64 ((t127.size : Int) - (wrap64 (Int.tdiv t126 8)))) < a1) = false := decide_eq_false c10
        clear c10
        obtain ⟨ji14, hji14⟩ : ∃ j_ : Int, (wrap64 (Int.tdiv t126 8)) = j_ := ⟨_, rfl⟩
        replace H : (if 0 ≤ (ji14) then (if (ji14) ≤ (wrap64 ((ji14) + a1)) then (if (wrap64 ((ji14) + a1)) ≤ (t127.size : Int) then (some (t127.extract ((ji14) : Int).toNat ((wrap64 ((ji14) + a1)) : Int).toNat, t127, wrap64 (8 * (wrap64 ((ji14) + a1))), t129)) else (none)) else (none)) else (none)) = some (r1, r2, r3, r4) := by first | (rw [hji14] at H; exact H) | (simp only [hji14] at H ⊢; exact H)
        (try rw [hji14] at c10b0)
        (try rw [hji14] at A3)
        (try rw [hji14] at A5)
        have hji14w : (IntKind.i64.wrap (Int.tdiv t126 8)) = ji14 := (i64_w _).trans hji14
        by_cases c15 : 0 ≤ (ji14)
        · rw [if_pos c15] at H
          have c15b0 := eq_true c15
          have c15b1 : decide (0 ≤ (ji14)) = true := decide_eq_true c15
          clear c15
          by_cases c16 : (ji14) ≤ (wrap64 ((ji14) + a1))
          · rw [if_pos c16] at H
            have c16b0 := eq_true c16
            have c16b1 : decide ((ji14) ≤ (wrap64 ((ji14) + a1))) = true := decide_eq_true c16
            by_cases c17 : (wrap64 ((ji14) + a1)) ≤ (t127.size : Int)
            · rw [if_pos c17] at H
              have c17b0 := eq_true c17
              have c17b1 : decide ((wrap64 ((ji14) + a1)) ≤ (t127.size : Int)) = true := decide_eq_true c17
              simp only [Option.some.injEq, Prod.mk.injEq] at H
              obtain ⟨rfl, rfl, rfl, rfl⟩ := H
              go_enter Try.func139, Try.ntmps139
              go_wp2_with (first | ((with_reducible refine gate_callee (f := 153) rfl ?_); refine goesL_ (some 7) rfl rfl Try.func153 (by kernel_rfl) rfl #[.pointer (some ⟨g, 0, none⟩)] rfl (by (try simp only [List.map_toArray, List.map_cons, List.map_nil]); first | done | rfl | (simp only [List.length_drop, List.length_take]; rfl)) ?_; (with_reducible refine (bits_Reader_live.calls g s0_0 s0_1 s0_2 true t123 t124 t125 w0 _ ?side1 ?side2 A3.out).mono ?_); (case side1 => repeat (first | (with_reducible first | exact HI0.out | apply IsS155.alloc | apply IsS155.drewN | apply IsS155.drew | apply IsS155.set_0 | apply IsS155.set_1 | apply IsS155.set_2) | exact HI0.out)); (case side2 => repeat (first | (with_reducible first | exact HB.out | apply below_alloc | apply pw_below_drewN | apply below_drew1 | refine below_set ?_ (IsS155.ge HI0.out)) | exact HB.out)); rintro e w18 ⟨rfl, hi, hb, hk⟩; refine ⟨_, rfl, ?_⟩; have n0_ := Aside0.mk (KeepBut.trans (by repeat (first | (with_reducible first | exact HK.out | apply KeepBut.set_ | apply keep_drewN | apply keep_drew | apply keep_alloc) | exact HK.out)) hk (.inl rfl)); have n1_ := Aside0.mk (hb); have n2_ := Aside0.mk (hi); clear HK; clear HB; clear HI0; have HK := n0_; have HB := n1_; have HI0 := n2_; clear n0_ n1_ n2_; (try clear hb); (try clear hb2); (try clear hk); (try clear hi)) | ((with_reducible refine gate_callee (f := 155) rfl ?_); refine goesL_ (some 10) rfl rfl Try.func155 (by kernel_rfl) rfl #[.pointer (some ⟨g, 0, none⟩)] rfl (by (try simp only [List.map_toArray, List.map_cons, List.map_nil]); first | done | rfl | (simp only [List.length_drop, List.length_take]; rfl)) ?_; (with_reducible refine (bits_Reader_aligned.calls g t123 t124 t125 t126 t127 t128 t129 w0 _ ?side1 ?side2 A5.out).mono ?_); (case side1 => repeat (first | (with_reducible first | exact HI0.out | apply IsS155.alloc | apply IsS155.drewN | apply IsS155.drew | apply IsS155.set_0 | apply IsS155.set_1 | apply IsS155.set_2) | exact HI0.out)); (case side2 => repeat (first | (with_reducible first | exact HB.out | apply below_alloc | apply pw_below_drewN | apply below_drew1 | refine below_set ?_ (IsS155.ge HI0.out)) | exact HB.out)); rintro e w19 ⟨rfl, hi, hb, hk⟩; refine ⟨_, rfl, ?_⟩; have n0_ := Aside0.mk (KeepBut.trans (by repeat (first | (with_reducible first | exact HK.out | apply KeepBut.set_ | apply keep_drewN | apply keep_drew | apply keep_alloc) | exact HK.out)) hk (.inl rfl)); have n1_ := Aside0.mk (hb); have n2_ := Aside0.mk (hi); clear HK; clear HB; clear HI0; have HK := n0_; have HB := n1_; have HI0 := n2_; clear n0_ n1_ n2_; (try clear hb); (try clear hb2); (try clear hk); (try clear hi); obtain ⟨HGz20, hgz20⟩ := HI0.out; have hcz20_0 := cellS155_0 HGz20; have hcz20_1 := cellS155_1 HGz20; have hcz20_2 := cellS155_2 HGz20; have hfz20_0 := blk_frozen HGz20 0; have hfz20_1 := blk_frozen HGz20 1; have hfz20_2 := blk_frozen HGz20 2; clear HGz20 hgz20))
              go_ret
              exact ⟨by first | rfl | (simp [errW_none, errW_some] <;> rfl) | (simp only [← hji14]; first | rfl | (simp [errW_none, errW_some] <;> rfl)) | (simp [*, errW_none, errW_some] <;> rfl), by repeat (first | (with_reducible first | exact HI0.out | apply IsS155.alloc | apply IsS155.drewN | apply IsS155.drew | apply IsS155.set_0 | apply IsS155.set_1 | apply IsS155.set_2) | exact HI0.out), by repeat (first | (with_reducible first | exact HB.out | apply below_alloc | apply pw_below_drewN | apply below_drew1 | refine below_set ?_ (IsS155.ge HI0.out)) | exact HB.out), by repeat (first | (with_reducible first | exact HK.out | apply KeepBut.set_ | apply keep_drewN | apply keep_drew | apply keep_alloc) | exact HK.out)⟩
            · rw [if_neg c17] at H
              exact absurd H (by simp)
          · rw [if_neg c16] at H
            exact absurd H (by simp)
        · rw [if_neg c15] at H
          exact absurd H (by simp)
  · replace c4 := Bool.eq_false_iff.mpr c4
    subst c4
    have H1 : (some ((⟨#[]⟩ : ByteArray), t123, t124, t125)) = some (r1, r2, r3, r4) := by rw [if_neg (show ¬ (false = true) by decide)] at H; exact H
    clear H
    have H := H1
    clear H1
    simp only [Option.some.injEq, Prod.mk.injEq] at H
    obtain ⟨rfl, rfl, rfl, rfl⟩ := H
    go_enter Try.func139, Try.ntmps139
    go_wp2_with (first | ((with_reducible refine gate_callee (f := 153) rfl ?_); refine goesL_ (some 7) rfl rfl Try.func153 (by kernel_rfl) rfl #[.pointer (some ⟨g, 0, none⟩)] rfl (by (try simp only [List.map_toArray, List.map_cons, List.map_nil]); first | done | rfl | (simp only [List.length_drop, List.length_take]; rfl)) ?_; (with_reducible refine (bits_Reader_live.calls g s0_0 s0_1 s0_2 false t123 t124 t125 w0 _ ?side1 ?side2 A3.out).mono ?_); (case side1 => repeat (first | (with_reducible first | exact HI0.out | apply IsS155.alloc | apply IsS155.drewN | apply IsS155.drew | apply IsS155.set_0 | apply IsS155.set_1 | apply IsS155.set_2) | exact HI0.out)); (case side2 => repeat (first | (with_reducible first | exact HB.out | apply below_alloc | apply pw_below_drewN | apply below_drew1 | refine below_set ?_ (IsS155.ge HI0.out)) | exact HB.out)); rintro e w21 ⟨rfl, hi, hb, hk⟩; refine ⟨_, rfl, ?_⟩; have n0_ := Aside0.mk (KeepBut.trans (by repeat (first | (with_reducible first | exact HK.out | apply KeepBut.set_ | apply keep_drewN | apply keep_drew | apply keep_alloc) | exact HK.out)) hk (.inl rfl)); have n1_ := Aside0.mk (hb); have n2_ := Aside0.mk (hi); clear HK; clear HB; clear HI0; have HK := n0_; have HB := n1_; have HI0 := n2_; clear n0_ n1_ n2_; (try clear hb); (try clear hb2); (try clear hk); (try clear hi)))
    go_ret
    exact ⟨by first | rfl | (simp [errW_none, errW_some] <;> rfl) | (simp [*, errW_none, errW_some] <;> rfl), by repeat (first | (with_reducible first | exact HI0.out | apply IsS155.alloc | apply IsS155.drewN | apply IsS155.drew | apply IsS155.set_0 | apply IsS155.set_1 | apply IsS155.set_2) | exact HI0.out), by repeat (first | (with_reducible first | exact HB.out | apply below_alloc | apply pw_below_drewN | apply below_drew1 | refine below_set ?_ (IsS155.ge HI0.out)) | exact HB.out), by repeat (first | (with_reducible first | exact HK.out | apply KeepBut.set_ | apply keep_drewN | apply keep_drew | apply keep_alloc) | exact HK.out)⟩

-- NOT PRINTED: function 119 (inflate_reader_stored)

-- NOT PRINTED: function 129 (prefix_counts)

-- NOT PRINTED: function 128 (prefix_Check)

-- NOT PRINTED: function 130 (prefix_codes)

/-! ### bits_ReverseBytes32: function 149 -/
def bits_ReverseBytes32.f (a0 : Int) : Option (Int) := some (Go.bits .or .u32 ((Go.bits .or .u32 (Go.bits .and .u32 (a0 / 256) 16711935) (((Go.bits .and .u32 a0 16711935) * 256) % 4294967296)) / 65536) (((Go.bits .or .u32 (Go.bits .and .u32 (a0 / 256) 16711935) (((Go.bits .and .u32 a0 16711935) * 256) % 4294967296)) * 65536) % 4294967296))
set_option maxHeartbeats 8000000 in
set_option maxRecDepth 100000 in
theorem bits_ReverseBytes32.calls (a0 : Int) (r : Int) (w : World) (h : bits_ReverseBytes32.f a0 = some r) :
    Calls Try.prog 149 #[.int .u32 a0] w fun e w' => e = .returned (.int .u32 r) ∧ Drawn0 w w' := by
  have H : (some (Go.bits .or .u32 ((Go.bits .or .u32 (Go.bits .and .u32 (a0 / 256) 16711935) (((Go.bits .and .u32 a0 16711935) * 256) % 4294967296)) / 65536) (((Go.bits .or .u32 (Go.bits .and .u32 (a0 / 256) 16711935) (((Go.bits .and .u32 a0 16711935) * 256) % 4294967296)) * 65536) % 4294967296))) = some r := h
  clear h
  obtain rfl := Option.some.inj H
  go_enter Try.func149, Try.ntmps149
  go_wp2
  go_ret
  exact ⟨by first | rfl | (simp; done) | (simp [*]; done), by repeat (first | exact Drawn0.refl _ | apply Drawn0.step)⟩

/-! ### bits_Reverse32: function 131 -/
def bits_Reverse32.f (a0 : Int) : Option (Int) := (bits_ReverseBytes32.f (Go.bits .or .u32 (Go.bits .and .u32 ((Go.bits .or .u32 (Go.bits .and .u32 ((Go.bits .or .u32 (Go.bits .and .u32 (a0 / 2) 1431655765) (((Go.bits .and .u32 a0 1431655765) * 2) % 4294967296)) / 4) 858993459) (((Go.bits .and .u32 (Go.bits .or .u32 (Go.bits .and .u32 (a0 / 2) 1431655765) (((Go.bits .and .u32 a0 1431655765) * 2) % 4294967296)) 858993459) * 4) % 4294967296)) / 16) 252645135) (((Go.bits .and .u32 (Go.bits .or .u32 (Go.bits .and .u32 ((Go.bits .or .u32 (Go.bits .and .u32 (a0 / 2) 1431655765) (((Go.bits .and .u32 a0 1431655765) * 2) % 4294967296)) / 4) 858993459) (((Go.bits .and .u32 (Go.bits .or .u32 (Go.bits .and .u32 (a0 / 2) 1431655765) (((Go.bits .and .u32 a0 1431655765) * 2) % 4294967296)) 858993459) * 4) % 4294967296)) 252645135) * 16) % 4294967296))).bind fun t130 => (some t130)
set_option maxHeartbeats 8000000 in
set_option maxRecDepth 100000 in
theorem bits_Reverse32.calls (a0 : Int) (r : Int) (w : World) (h : bits_Reverse32.f a0 = some r) :
    Calls Try.prog 131 #[.int .u32 a0] w fun e w' => e = .returned (.int .u32 r) ∧ Drawn0 w w' := by
  have H : ((bits_ReverseBytes32.f (Go.bits .or .u32 (Go.bits .and .u32 ((Go.bits .or .u32 (Go.bits .and .u32 ((Go.bits .or .u32 (Go.bits .and .u32 (a0 / 2) 1431655765) (((Go.bits .and .u32 a0 1431655765) * 2) % 4294967296)) / 4) 858993459) (((Go.bits .and .u32 (Go.bits .or .u32 (Go.bits .and .u32 (a0 / 2) 1431655765) (((Go.bits .and .u32 a0 1431655765) * 2) % 4294967296)) 858993459) * 4) % 4294967296)) / 16) 252645135) (((Go.bits .and .u32 (Go.bits .or .u32 (Go.bits .and .u32 ((Go.bits .or .u32 (Go.bits .and .u32 (a0 / 2) 1431655765) (((Go.bits .and .u32 a0 1431655765) * 2) % 4294967296)) / 4) 858993459) (((Go.bits .and .u32 (Go.bits .or .u32 (Go.bits .and .u32 (a0 / 2) 1431655765) (((Go.bits .and .u32 a0 1431655765) * 2) % 4294967296)) 858993459) * 4) % 4294967296)) 252645135) * 16) % 4294967296))).bind fun t130 => (some t130)) = some r := h
  clear h
  replace H := Option.bind_eq_some_iff.mp H
  obtain ⟨t130, A20, H⟩ := H
  replace H : (some t130) = some r := H
  have A2 := Aside0.mk A20
  clear A20
  obtain rfl := Option.some.inj H
  go_enter Try.func131, Try.ntmps131
  go_wp2_with (first | ((with_reducible refine gate_callee (f := 149) rfl ?_); refine goesL_ (some 25) rfl rfl Try.func149 (by kernel_rfl) rfl #[.int .u32 (Go.bits .or .u32 (Go.bits .and .u32 ((Go.bits .or .u32 (Go.bits .and .u32 ((Go.bits .or .u32 (Go.bits .and .u32 (a0 / 2) 1431655765) (((Go.bits .and .u32 a0 1431655765) * 2) % 4294967296)) / 4) 858993459) (((Go.bits .and .u32 (Go.bits .or .u32 (Go.bits .and .u32 (a0 / 2) 1431655765) (((Go.bits .and .u32 a0 1431655765) * 2) % 4294967296)) 858993459) * 4) % 4294967296)) / 16) 252645135) (((Go.bits .and .u32 (Go.bits .or .u32 (Go.bits .and .u32 ((Go.bits .or .u32 (Go.bits .and .u32 (a0 / 2) 1431655765) (((Go.bits .and .u32 a0 1431655765) * 2) % 4294967296)) / 4) 858993459) (((Go.bits .and .u32 (Go.bits .or .u32 (Go.bits .and .u32 (a0 / 2) 1431655765) (((Go.bits .and .u32 a0 1431655765) * 2) % 4294967296)) 858993459) * 4) % 4294967296)) 252645135) * 16) % 4294967296))] rfl (by (try simp only [List.map_toArray, List.map_cons, List.map_nil]); first | done | rfl | (simp only [List.length_drop, List.length_take]; rfl)) ?_; (with_reducible refine (bits_ReverseBytes32.calls (Go.bits .or .u32 (Go.bits .and .u32 ((Go.bits .or .u32 (Go.bits .and .u32 ((Go.bits .or .u32 (Go.bits .and .u32 (a0 / 2) 1431655765) (((Go.bits .and .u32 a0 1431655765) * 2) % 4294967296)) / 4) 858993459) (((Go.bits .and .u32 (Go.bits .or .u32 (Go.bits .and .u32 (a0 / 2) 1431655765) (((Go.bits .and .u32 a0 1431655765) * 2) % 4294967296)) 858993459) * 4) % 4294967296)) / 16) 252645135) (((Go.bits .and .u32 (Go.bits .or .u32 (Go.bits .and .u32 ((Go.bits .or .u32 (Go.bits .and .u32 (a0 / 2) 1431655765) (((Go.bits .and .u32 a0 1431655765) * 2) % 4294967296)) / 4) 858993459) (((Go.bits .and .u32 (Go.bits .or .u32 (Go.bits .and .u32 (a0 / 2) 1431655765) (((Go.bits .and .u32 a0 1431655765) * 2) % 4294967296)) 858993459) * 4) % 4294967296)) 252645135) * 16) % 4294967296)) t130 _ A2.out).mono ?_); rintro e w' ⟨rfl, ⟨nd, rfl⟩⟩; refine ⟨_, rfl, ?_⟩))
  go_ret
  exact ⟨by first | rfl | (simp; done) | (simp [*]; done), by repeat (first | exact Drawn0.refl _ | apply Drawn0.step)⟩

-- NOT PRINTED: function 104 (prefix_New)

-- NOT PRINTED: function 120 (inflate_plain)

-- NOT PRINTED: function 140 (prefix_Table_Read)

/-! ### token_within: function 127 -/
def token_within.f (a0 : Int) (a1 : Int) (a2 : Int) : Option (Bool) := if a0 ≥ a1 then (some (decide (a0 ≤ a2))) else (some false)
set_option maxHeartbeats 8000000 in
set_option maxRecDepth 100000 in
theorem token_within.calls (a0 : Int) (a1 : Int) (a2 : Int) (r : Bool) (w : World) (h : token_within.f a0 a1 a2 = some r) :
    Calls Try.prog 127 #[.int .i64 a0, .int .i64 a1, .int .i64 a2] w fun e w' => e = .returned (.bool r) ∧ Drawn0 w w' := by
  have H : (if a0 ≥ a1 then (some (decide (a0 ≤ a2))) else (some false)) = some r := h
  clear h
  by_cases c4 : a0 ≥ a1
  · rw [if_pos c4] at H
    have c4b0 : decide (a1 ≤ a0) = true := decide_eq_true c4
    clear c4
    obtain rfl := Option.some.inj H
    go_enter Try.func127, Try.ntmps127
    go_wp2
    go_ret
    exact ⟨by first | rfl | (simp; done) | (simp [*]; done), by repeat (first | exact Drawn0.refl _ | apply Drawn0.step)⟩
  · rw [if_neg c4] at H
    have c4b0 : decide (a1 ≤ a0) = false := decide_eq_false c4
    clear c4
    obtain rfl := Option.some.inj H
    go_enter Try.func127, Try.ntmps127
    go_wp2
    go_ret
    exact ⟨by first | rfl | (simp; done) | (simp [*]; done), by repeat (first | exact Drawn0.refl _ | apply Drawn0.step)⟩

end Go.Proofs.Ytmanmjjjepdhlaa.XInflateAny
