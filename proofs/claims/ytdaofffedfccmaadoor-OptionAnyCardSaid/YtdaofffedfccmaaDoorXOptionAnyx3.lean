-- Written by this session's own program wip/xprint.py: a changed copy of the kit's print.
import Derived.Test.YtdaofffedfccmaaDoorXOptionAnyx0
import Derived.Test.YtdaofffedfccmaaDoorXOptionAnyx2
namespace Go.Proofs.YtdaofffedfccmaaDoor.XOptionAny
open Go.RowKit Go.Proofs.YtdaofffedfccmaaDoorW.PrintWords Go.Proofs.YtdaofffedfccmaaDoorW.PrintLast Go.Proofs.YtdaofffedfccmaaDoorW.PrintMore
attribute [local go_sem] max2_int min2_int max_two min_two max_three min_three max_four min_four   -- for this text's walks alone
set_option linter.unusedVariables false
set_option linter.unusedSimpArgs false

/-! ### montageref31_Parse: function 46 -/
mutual
def montageref31_Parse.l0 : Nat → List ByteArray → List ByteArray → Int → Int → Bool → Bool → Bool → Int → Option (Int × Bool × Bool × Bool × Int × Int)
  | 0, _, _, _, _, _, _, _, _ => none
  | k + 1, x0, x5, x6, x136000, x136001, x136002, x136003, x136004 => if x6 < (x0.length : Int) then (if 0 ≤ x6 then ((montageref31_cut.f k (rdOf ByteArray.empty x0 x6)).bind fun bt137 => (if bt137.1.toList = ([108, 101, 118, 101, 108] : List UInt8) then (montageref31_Parse.j1 k x0 x5 x6 bt137.1 bt137.2.1 bt137.2.2 bt137.2.2 x136000 x136001 x136002 x136003 x136004) else (montageref31_Parse.j1 k x0 x5 x6 bt137.1 bt137.2.1 bt137.2.2 false x136000 x136001 x136002 x136003 x136004))) else (none)) else (some (x136000, x136001, x136002, x136003, x136004, 0))
def montageref31_Parse.j1 : Nat → List ByteArray → List ByteArray → Int → ByteArray → ByteArray → Bool → Bool → Int → Bool → Bool → Bool → Int → Option (Int × Bool × Bool × Bool × Int × Int)
  | 0, _, _, _, _, _, _, _, _, _, _, _, _ => none
  | k + 1, x0, x5, x6, x7, x8, x9, x31, x136000, x136001, x136002, x136003, x136004 => if x31 = true then ((montageref31_number.f k x8 1).bind fun t140 => (if t140 < 0 then (some (0, false, false, false, 0, 2)) else (if t140 > 3 then (some (0, false, false, false, 0, 7)) else ((montageref31_has.f k x5 x7).bind fun t141 => (if t141 = true then (some (0, false, false, false, 0, 6)) else (if x5.length < 8796093022208 then (montageref31_Parse.l0 k x0 (x5 ++ [x7]) (wrap64 (x6 + 1)) t140 x136001 x136002 x136003 x136004) else (none))))))) else (if x7.toList = ([109, 111, 115, 116] : List UInt8) then (montageref31_Parse.j2 k x0 x5 x6 x7 x8 x9 x136000 x136001 x136002 x136003 x136004) else (montageref31_Parse.j2 k x0 x5 x6 x7 x8 false x136000 x136001 x136002 x136003 x136004))
def montageref31_Parse.j2 : Nat → List ByteArray → List ByteArray → Int → ByteArray → ByteArray → Bool → Int → Bool → Bool → Bool → Int → Option (Int × Bool × Bool × Bool × Int × Int)
  | 0, _, _, _, _, _, _, _, _, _, _, _ => none
  | k + 1, x0, x5, x6, x7, x8, x46, x136000, x136001, x136002, x136003, x136004 => if x46 = true then ((montageref31_number.f k x8 7).bind fun t145 => (if t145 < 0 then (some (0, false, false, false, 0, 2)) else (if t145 > 4194304 then (some (0, false, false, false, 0, 7)) else ((montageref31_has.f k x5 x7).bind fun t146 => (if t146 = true then (some (0, false, false, false, 0, 6)) else (if x5.length < 8796093022208 then (montageref31_Parse.l0 k x0 (x5 ++ [x7]) (wrap64 (x6 + 1)) x136000 x136001 x136002 x136003 t145) else (none))))))) else (if 0 ≤ x6 then (if x6 < (x0.length : Int) then (if (rdOf ByteArray.empty x0 x6).toList = ([114, 101, 117, 115, 101] : List UInt8) then ((montageref31_has.f k x5 x7).bind fun t151 => (if t151 = true then (some (0, false, false, false, 0, 6)) else (if x5.length < 8796093022208 then (montageref31_Parse.l0 k x0 (x5 ++ [x7]) (wrap64 (x6 + 1)) x136000 true x136002 x136003 x136004) else (none)))) else (if (rdOf ByteArray.empty x0 x6).toList = ([115, 104, 97, 114, 101] : List UInt8) then ((montageref31_has.f k x5 x7).bind fun t156 => (if t156 = true then (some (0, false, false, false, 0, 6)) else (if x5.length < 8796093022208 then (montageref31_Parse.l0 k x0 (x5 ++ [x7]) (wrap64 (x6 + 1)) x136000 x136001 true x136003 x136004) else (none)))) else (if (rdOf ByteArray.empty x0 x6).toList = ([119, 105, 100, 101] : List UInt8) then ((montageref31_has.f k x5 x7).bind fun t161 => (if t161 = true then (some (0, false, false, false, 0, 6)) else (if x5.length < 8796093022208 then (montageref31_Parse.l0 k x0 (x5 ++ [x7]) (wrap64 (x6 + 1)) x136000 x136001 x136002 true x136004) else (none)))) else (some (0, false, false, false, 0, 2))))) else (none)) else (none))
end
def montageref31_Parse.f (k : Nat) (l0 : List ByteArray) : Option (Int × Bool × Bool × Bool × Int × Int) := montageref31_Parse.l0 k l0 ([] : List ByteArray) 0 1 false false false 4194304
theorem montageref31_Parse.mono_l : ∀ k, (∀ y0 y1 y2 y3 y4 y5 y6 y7, LeO (montageref31_Parse.l0 k y0 y1 y2 y3 y4 y5 y6 y7) (montageref31_Parse.l0 (k + 1) y0 y1 y2 y3 y4 y5 y6 y7)) ∧ (∀ y0 y1 y2 y3 y4 y5 y6 y7 y8 y9 y10 y11, LeO (montageref31_Parse.j1 k y0 y1 y2 y3 y4 y5 y6 y7 y8 y9 y10 y11) (montageref31_Parse.j1 (k + 1) y0 y1 y2 y3 y4 y5 y6 y7 y8 y9 y10 y11)) ∧ (∀ y0 y1 y2 y3 y4 y5 y6 y7 y8 y9 y10, LeO (montageref31_Parse.j2 k y0 y1 y2 y3 y4 y5 y6 y7 y8 y9 y10) (montageref31_Parse.j2 (k + 1) y0 y1 y2 y3 y4 y5 y6 y7 y8 y9 y10))
  | 0 => ⟨fun _ _ _ _ _ _ _ _ r h => by simp [montageref31_Parse.l0] at h, fun _ _ _ _ _ _ _ _ _ _ _ _ r h => by simp [montageref31_Parse.j1] at h, fun _ _ _ _ _ _ _ _ _ _ _ r h => by simp [montageref31_Parse.j2] at h⟩
  | k + 1 => by
    obtain ⟨ih0, ih1, ih2⟩ := montageref31_Parse.mono_l k
    refine ⟨?_, ?_, ?_⟩
    · intro y0 y1 y2 y3 y4 y5 y6 y7
      unfold montageref31_Parse.l0
      repeat' first
      | (with_reducible exact ih0 _ _ _ _ _ _ _ _)
      | (with_reducible exact ih1 _ _ _ _ _ _ _ _ _ _ _ _)
      | (with_reducible exact ih2 _ _ _ _ _ _ _ _ _ _ _)
      | (with_reducible exact montageref31_cut.mono _ _)
      | (with_reducible exact montageref31_has.mono _ _ _)
      | (with_reducible exact montageref31_number.mono _ _ _)
      | (with_reducible exact LeO.refl _)
      | (with_reducible exact LeO.none _)
      | (with_reducible refine LeO.ite ?_ ?_)
      | (with_reducible refine LeO.bind ?_ (fun _ => ?_))
      | exact ih0 _ _ _ _ _ _ _ _
      | exact ih1 _ _ _ _ _ _ _ _ _ _ _ _
      | exact ih2 _ _ _ _ _ _ _ _ _ _ _
      | exact montageref31_cut.mono _ _
      | exact montageref31_has.mono _ _ _
      | exact montageref31_number.mono _ _ _
      | exact LeO.none _
      | refine LeO.ite ?_ ?_
      | refine LeO.bind ?_ (fun _ => ?_)
    · intro y0 y1 y2 y3 y4 y5 y6 y7 y8 y9 y10 y11
      unfold montageref31_Parse.j1
      repeat' first
      | (with_reducible exact ih0 _ _ _ _ _ _ _ _)
      | (with_reducible exact ih1 _ _ _ _ _ _ _ _ _ _ _ _)
      | (with_reducible exact ih2 _ _ _ _ _ _ _ _ _ _ _)
      | (with_reducible exact montageref31_cut.mono _ _)
      | (with_reducible exact montageref31_has.mono _ _ _)
      | (with_reducible exact montageref31_number.mono _ _ _)
      | (with_reducible exact LeO.refl _)
      | (with_reducible exact LeO.none _)
      | (with_reducible refine LeO.ite ?_ ?_)
      | (with_reducible refine LeO.bind ?_ (fun _ => ?_))
      | exact ih0 _ _ _ _ _ _ _ _
      | exact ih1 _ _ _ _ _ _ _ _ _ _ _ _
      | exact ih2 _ _ _ _ _ _ _ _ _ _ _
      | exact montageref31_cut.mono _ _
      | exact montageref31_has.mono _ _ _
      | exact montageref31_number.mono _ _ _
      | exact LeO.none _
      | refine LeO.ite ?_ ?_
      | refine LeO.bind ?_ (fun _ => ?_)
    · intro y0 y1 y2 y3 y4 y5 y6 y7 y8 y9 y10
      unfold montageref31_Parse.j2
      repeat' first
      | (with_reducible exact ih0 _ _ _ _ _ _ _ _)
      | (with_reducible exact ih1 _ _ _ _ _ _ _ _ _ _ _ _)
      | (with_reducible exact ih2 _ _ _ _ _ _ _ _ _ _ _)
      | (with_reducible exact montageref31_cut.mono _ _)
      | (with_reducible exact montageref31_has.mono _ _ _)
      | (with_reducible exact montageref31_number.mono _ _ _)
      | (with_reducible exact LeO.refl _)
      | (with_reducible exact LeO.none _)
      | (with_reducible refine LeO.ite ?_ ?_)
      | (with_reducible refine LeO.bind ?_ (fun _ => ?_))
      | exact ih0 _ _ _ _ _ _ _ _
      | exact ih1 _ _ _ _ _ _ _ _ _ _ _ _
      | exact ih2 _ _ _ _ _ _ _ _ _ _ _
      | exact montageref31_cut.mono _ _
      | exact montageref31_has.mono _ _ _
      | exact montageref31_number.mono _ _ _
      | exact LeO.none _
      | refine LeO.ite ?_ ?_
      | refine LeO.bind ?_ (fun _ => ?_)
theorem montageref31_Parse.mono : ∀ a0 k, LeO (montageref31_Parse.f k a0) (montageref31_Parse.f (k + 1) a0) := by
  intro a0 k
  obtain ⟨ih0, ih1, ih2⟩ := montageref31_Parse.mono_l k
  unfold montageref31_Parse.f
  repeat' first
      | (with_reducible exact ih0 _ _ _ _ _ _ _ _)
      | (with_reducible exact ih1 _ _ _ _ _ _ _ _ _ _ _ _)
      | (with_reducible exact ih2 _ _ _ _ _ _ _ _ _ _ _)
      | (with_reducible exact montageref31_cut.mono _ _)
      | (with_reducible exact montageref31_has.mono _ _ _)
      | (with_reducible exact montageref31_number.mono _ _ _)
      | (with_reducible exact LeO.refl _)
      | (with_reducible exact LeO.none _)
      | (with_reducible refine LeO.ite ?_ ?_)
      | (with_reducible refine LeO.bind ?_ (fun _ => ?_))
      | exact ih0 _ _ _ _ _ _ _ _
      | exact ih1 _ _ _ _ _ _ _ _ _ _ _ _
      | exact ih2 _ _ _ _ _ _ _ _ _ _ _
      | exact montageref31_cut.mono _ _
      | exact montageref31_has.mono _ _ _
      | exact montageref31_number.mono _ _ _
      | exact LeO.none _
      | refine LeO.ite ?_ ?_
      | refine LeO.bind ?_ (fun _ => ?_)
set_option maxHeartbeats 8000000 in
set_option maxRecDepth 100000 in
theorem montageref31_Parse.calls (k : Nat) (A0 : Option Addr) (c0 : Nat) (l0 : List ByteArray) (r1 : Int) (r2 : Bool) (r3 : Bool) (r4 : Bool) (r5 : Int) (r6 : Int) (w : World) (hr0 : Kd.C Kd.string w A0 l0.length l0) (hc0 : l0.length ≤ c0) (h : montageref31_Parse.f k l0 = some (r1, r2, r3, r4, r5, r6)) :
    Calls Tryd.prog 46 #[.slice A0 l0.length c0] w fun e w' => e = .returned (.tuple #[.agg #[.int .i64 r1, .bool r2, .bool r3, .bool r4, .int .i64 r5], .int .i64 r6]) ∧ Below w.heap.size w w' := by
  have hu58 := Tryd.underlying58
  have HR0 := Aside0.mk hr0
  have HC0 := Aside0.mk hc0
  clear hr0 hc0
  have HB := Aside0.mk (Below.refl w.heap.size w)
  have H : (montageref31_Parse.l0 k l0 ([] : List ByteArray) 0 1 false false false 4194304) = some (r1, r2, r3, r4, r5, r6) := h
  clear h
  have H' := Aside0.mk H
  clear H
  go_enter Tryd.func46, Tryd.ntmps46
  go_wp2_with (first | ((with_reducible refine gate_dst (N := 2) rfl ?_); refine box_event ?hg (N := 2) ?hd (cs := #[.int .i64 0, .bool false, .bool false, .bool false, .int .i64 0]) (t := 58) ?hr ?_; (case hd => rfl); (case hg => rfl); (case hr => first | (go_simp; done) | (go_simp; rfl)); intro gb134 hg w2 hbox hb; have n0_ := Aside0.mk (below_step (by repeat (first | (with_reducible first | exact HB.out | apply below_alloc | apply pw_below_drewN | apply below_drew1) | exact HB.out)) hb); have n1_ := Aside0.mk (hbox); have n2_ := Aside0.mk ((by rw [hg]; exact (below_size (by repeat (first | (with_reducible first | exact HB.out | apply below_alloc | apply pw_below_drewN | apply below_drew1) | exact HB.out))) : w.heap.size ≤ gb134)); have n3_ := Aside0.mk ((by rw [hg]; exact (below_size (by repeat (first | (with_reducible first | exact HB.out | apply below_alloc | apply pw_below_drewN | apply below_drew1) | exact HB.out))) : w.heap.size ≤ gb134)); clear HB; have HB := n0_; have BK134 := n1_; have GW134 := n2_; have GE134 := n3_; clear n0_ n1_ n2_ n3_; clear hb hbox hg) | ((with_reducible refine gate_dst (N := 4) rfl ?_); refine box_event ?hg (N := 4) ?hd (cs := #[.int .i64 0, .bool false, .bool false, .bool false, .int .i64 0]) (t := 58) ?hr ?_; (case hd => rfl); (case hg => rfl); (case hr => first | (go_simp; done) | (go_simp; rfl)); intro gb135 hg w3 hbox hb; have n0_ := Aside0.mk (blk_below (g := gb134) (o := .cells #[.int .i64 0, .bool false, .bool false, .bool false, .int .i64 0] 58 (0, 0)) (by (with_reducible repeat (first | refine blk_drewN ?_ _ | refine blk_drew ?_ | refine blk_alloc ?_ _)); exact BK134.out) hb); have n1_ := Aside0.mk (below_step (by repeat (first | (with_reducible first | exact HB.out | apply below_alloc | apply pw_below_drewN | apply below_drew1 | refine below_set ?_ GE134.out) | exact HB.out)) hb); have n2_ := Aside0.mk (hbox); have n3_ := Aside0.mk ((by rw [hg]; exact (below_size (by repeat (first | (with_reducible first | exact HB.out | apply below_alloc | apply pw_below_drewN | apply below_drew1 | refine below_set ?_ GE134.out) | exact HB.out))) : w.heap.size ≤ gb135)); have n4_ := Aside0.mk ((by rw [hg]; exact (below_size (by repeat (first | (with_reducible first | exact HB.out | apply below_alloc | apply pw_below_drewN | apply below_drew1 | refine below_set ?_ GE134.out) | exact HB.out))) : w.heap.size ≤ gb135)); have n5_ := Aside0.mk ((by rw [hg]; exact Nat.ne_of_lt (blk_lt (g := gb134) (o := .cells #[.int .i64 0, .bool false, .bool false, .bool false, .int .i64 0] 58 (0, 0)) (by (with_reducible repeat (first | refine blk_drewN ?_ _ | refine blk_drew ?_ | refine blk_alloc ?_ _)); exact BK134.out)) : gb134 ≠ gb135)); have n6_ := Aside0.mk ((by rw [hg]; exact Nat.ne_of_gt (blk_lt (g := gb134) (o := .cells #[.int .i64 0, .bool false, .bool false, .bool false, .int .i64 0] 58 (0, 0)) (by (with_reducible repeat (first | refine blk_drewN ?_ _ | refine blk_drew ?_ | refine blk_alloc ?_ _)); exact BK134.out)) : gb135 ≠ gb134)); clear BK134; clear HB; have BK134 := n0_; have HB := n1_; have BK135 := n2_; have GW135 := n3_; have GE135 := n4_; have NB134_135 := n5_; have NB135_134 := n6_; clear n0_ n1_ n2_ n3_ n4_ n5_ n6_; clear hb hbox hg; have hnb4 := NB135_134.out; have hnc4 := NB134_135.out; have hcz5_0 : w3.cell? ⟨gb135, 0, none⟩ = some (.int .i64 0) := (blk_cell BK135.out 0).trans rfl; have hcz5_1 : w3.cell? ⟨gb135, 1, none⟩ = some (.bool false) := (blk_cell BK135.out 1).trans rfl; have hcz5_2 : w3.cell? ⟨gb135, 2, none⟩ = some (.bool false) := (blk_cell BK135.out 2).trans rfl; have hcz5_3 : w3.cell? ⟨gb135, 3, none⟩ = some (.bool false) := (blk_cell BK135.out 3).trans rfl; have hcz5_4 : w3.cell? ⟨gb135, 4, none⟩ = some (.int .i64 0) := (blk_cell BK135.out 4).trans rfl; have hfz5_0 := blk_frozen BK135.out 0; have hfz5_1 := blk_frozen BK135.out 1; have hfz5_2 := blk_frozen BK135.out 2; have hfz5_3 := blk_frozen BK135.out 3; have hfz5_4 := blk_frozen BK135.out 4))
  go_loopg [5, 6] k (fun kq v5 v6 w' => ∃ (x5_1 : List ByteArray) (x6_1 : Int) (x135000_1 : Int) (x135001_1 : Bool) (x135002_1 : Bool) (x135003_1 : Bool) (x135004_1 : Int) (x136000_1 : Int) (x136001_1 : Bool) (x136002_1 : Bool) (x136003_1 : Bool) (x136004_1 : Int), v6 = .int .i64 x6_1 ∧ Aside0 (montageref31_Parse.l0 kq l0 x5_1 x6_1 x136000_1 x136001_1 x136002_1 x136003_1 x136004_1 = some (r1, r2, r3, r4, r5, r6)) ∧ Aside0 (kq ≤ k) ∧ Aside0 (Kd.R Kd.string 9 w' w.heap.size (fun _ => True) v5 x5_1) ∧ Aside0 (w'.heap[gb134]? = some (.cells #[.int .i64 x135000_1, .bool x135001_1, .bool x135002_1, .bool x135003_1, .int .i64 x135004_1] 58 (0, 0))) ∧ Aside0 (w'.heap[gb135]? = some (.cells #[.int .i64 x136000_1, .bool x136001_1, .bool x136002_1, .bool x136003_1, .int .i64 x136004_1] 58 (0, 0))) ∧ Aside0 (Below w.heap.size w w'))
  case atStart => exact ⟨(([] : List ByteArray)), (0), (0), (false), (false), (false), (0), (1), (false), (false), (false), (4194304), (by first | rfl | (simp; done) | (simp [*]; done)), H', ⟨Nat.le_refl _⟩, ⟨by first | exact Kd.R_nil _ _ _ _ _ | exact Kd.N_nil _ _ _ _ _ | exact Kd.V_nil _ _ _ _ _ | exact Kd.Q_nil _ _ _ _ _ | exact Kd.S_nil _ _ _ _ _⟩, ⟨by (with_reducible repeat (first | refine blk_drewN ?_ _ | refine blk_drew ?_ | refine blk_alloc ?_ _)); refine blk_far ?_ NB134_135.out _; (with_reducible repeat (first | refine blk_drewN ?_ _ | refine blk_drew ?_ | refine blk_alloc ?_ _)); refine blk_far ?_ NB134_135.out _; (with_reducible repeat (first | refine blk_drewN ?_ _ | refine blk_drew ?_ | refine blk_alloc ?_ _)); refine blk_far ?_ NB134_135.out _; (with_reducible repeat (first | refine blk_drewN ?_ _ | refine blk_drew ?_ | refine blk_alloc ?_ _)); refine blk_far ?_ NB134_135.out _; (with_reducible repeat (first | refine blk_drewN ?_ _ | refine blk_drew ?_ | refine blk_alloc ?_ _)); refine blk_far ?_ NB134_135.out _; (with_reducible repeat (first | refine blk_drewN ?_ _ | refine blk_drew ?_ | refine blk_alloc ?_ _)); exact BK134.out⟩, ⟨by (with_reducible repeat (first | refine blk_drewN ?_ _ | refine blk_drew ?_ | refine blk_alloc ?_ _)); refine blk_put (cs := #[.int .i64 1, .bool false, .bool false, .bool false, .int .i64 0]) ?_ 4 _ rfl; (with_reducible repeat (first | refine blk_drewN ?_ _ | refine blk_drew ?_ | refine blk_alloc ?_ _)); refine blk_put (cs := #[.int .i64 1, .bool false, .bool false, .bool false, .int .i64 0]) ?_ 3 _ rfl; (with_reducible repeat (first | refine blk_drewN ?_ _ | refine blk_drew ?_ | refine blk_alloc ?_ _)); refine blk_put (cs := #[.int .i64 1, .bool false, .bool false, .bool false, .int .i64 0]) ?_ 2 _ rfl; (with_reducible repeat (first | refine blk_drewN ?_ _ | refine blk_drew ?_ | refine blk_alloc ?_ _)); refine blk_put (cs := #[.int .i64 1, .bool false, .bool false, .bool false, .int .i64 0]) ?_ 1 _ rfl; (with_reducible repeat (first | refine blk_drewN ?_ _ | refine blk_drew ?_ | refine blk_alloc ?_ _)); refine blk_put (cs := #[.int .i64 0, .bool false, .bool false, .bool false, .int .i64 0]) ?_ 0 _ rfl; (with_reducible repeat (first | refine blk_drewN ?_ _ | refine blk_drew ?_ | refine blk_alloc ?_ _)); exact BK135.out⟩, ⟨by repeat (first | (with_reducible first | exact HB.out | apply below_alloc | apply pw_below_drewN | apply below_drew1 | refine below_set ?_ GE134.out | refine below_set ?_ GE135.out) | exact HB.out)⟩⟩
  case round =>
    clear H'
    try clear p2
    try clear c4
    try clear hcz5_0
    try clear hcz5_1
    try clear hcz5_2
    try clear hcz5_3
    try clear hcz5_4
    try clear hfz5_0
    try clear hfz5_1
    try clear hfz5_2
    try clear hfz5_3
    try clear hfz5_4
    obtain ⟨x5_1, x6_1, x135000_1, x135001_1, x135002_1, x135003_1, x135004_1, x136000_1, x136001_1, x136002_1, x136003_1, x136004_1, rfl, HA, HK1, HO_5, BK134, BK135, HB⟩ := hrel
    cases gk with
    | zero => exact absurd HA.out (by simp [montageref31_Parse.l0])
    | succ k1 =>
      have H := HA.out
      clear HA
      simp only [montageref31_Parse.l0] at H
      by_cases c6 : x6_1 < (l0.length : Int)
      · rw [if_pos c6] at H
        have c6b0 : decide (x6_1 < (l0.length : Int)) = true := decide_eq_true c6
        clear c6
        by_cases c7 : 0 ≤ x6_1
        · rw [if_pos c7] at H
          have c7b0 : decide (0 ≤ x6_1) = true := decide_eq_true c7
          clear c7
          replace H := Option.bind_eq_some_iff.mp H
          obtain ⟨⟨t137, t138, t139⟩, A80, H⟩ := H
          replace H : (if t137.toList = ([108, 101, 118, 101, 108] : List UInt8) then (montageref31_Parse.j1 k1 l0 x5_1 x6_1 t137 t138 t139 t139 x136000_1 x136001_1 x136002_1 x136003_1 x136004_1) else (montageref31_Parse.j1 k1 l0 x5_1 x6_1 t137 t138 t139 false x136000_1 x136001_1 x136002_1 x136003_1 x136004_1)) = some (r1, r2, r3, r4, r5, r6) := H
          have A8 := Aside0.mk A80
          clear A80
          have HC9 := Aside0.mk H
          clear H
          have p136 : 0 ≤ (x6_1 : Int) := of_decide_eq_true (by first | (with_reducible assumption) | assumption)
          have q136 : x6_1 < (l0.length : Int) := of_decide_eq_true (by first | (with_reducible assumption) | assumption)
          obtain ⟨ad136, e136, hx136_0⟩ := Kd.at_string HR0.out x6_1 p136 q136
          cases e136
          replace hx136_0 := (HB.out.cell (World.block_lt_of_cell? w _ hx136_0)).trans hx136_0
          replace p136 := eq_true p136
          replace q136 := eq_true q136
          go_upto_region 8 with (first | ((with_reducible refine gate_callee (f := 92) rfl ?_); refine goesL_ (some 23) rfl rfl Tryd.func92 (by kernel_rfl) rfl #[.string (rdOf ByteArray.empty l0 x6_1)] rfl (by (try simp only [List.map_toArray, List.map_cons, List.map_nil]); first | done | rfl | (simp only [List.length_drop, List.length_take]; rfl)) ?_; (with_reducible refine (montageref31_cut.calls k1 (rdOf ByteArray.empty l0 x6_1) t137 t138 t139 _ A8.out).mono ?_); rintro e w' ⟨rfl, ⟨nd, rfl⟩⟩; refine ⟨_, rfl, ?_⟩))
          (try simp only [Act.put, List.setIfInBounds_toArray, List.set_cons_zero, List.set_cons_succ])
          go_cut [31] (fun v31 wc => ∃ (kq : Nat) (x31_8 : Bool), v31 = .bool x31_8 ∧ Aside0 (montageref31_Parse.j1 kq l0 x5_1 x6_1 t137 t138 t139 x31_8 x136000_1 x136001_1 x136002_1 x136003_1 x136004_1 = some (r1, r2, r3, r4, r5, r6)) ∧ Aside0 (kq ≤ k1) ∧ Aside0 (Kd.R Kd.string 9 wc w.heap.size (fun _ => True) u5 x5_1) ∧ Aside0 (wc.heap[gb134]? = some (.cells #[.int .i64 x135000_1, .bool x135001_1, .bool x135002_1, .bool x135003_1, .int .i64 x135004_1] 58 (0, 0))) ∧ Aside0 (wc.heap[gb135]? = some (.cells #[.int .i64 x136000_1, .bool x136001_1, .bool x136002_1, .bool x136003_1, .int .i64 x136004_1] 58 (0, 0))) ∧ Aside0 (Below w.heap.size w wc))
          case first =>
            have H := HC9.out
            clear HC9
            by_cases c10 : t137.toList = ([108, 101, 118, 101, 108] : List UInt8)
            · rw [if_pos c10] at H
              have c10b0 : (t137.toList == ([108, 101, 118, 101, 108] : List UInt8)) = true := beq_iff_eq.mpr c10
              have c10b1 : (t137.toList != ([108, 101, 118, 101, 108] : List UInt8)) = false := bne_eq_false_iff_eq.mpr c10
              clear c10
              (first | rw [c10b0] | (simp only [i64_w, i32_w]; rw [c10b0]) | skip)
              have H' := Aside0.mk H
              clear H
              go_wp2
              go_meet
              case rel => exact ⟨_, (t139), (by first | rfl | (simp; done) | (simp [*]; done)), H', ⟨by have := HK1.out; first | omega | exact Nat.le_refl _⟩, ⟨by (with_reducible repeat (first | apply Kd.R_alloc | apply Kd.R_drewN | apply Kd.R_drew)); exact HO_5.out⟩, ⟨by (with_reducible repeat (first | refine blk_drewN ?_ _ | refine blk_drew ?_ | refine blk_alloc ?_ _)); exact BK134.out⟩, ⟨by (with_reducible repeat (first | refine blk_drewN ?_ _ | refine blk_drew ?_ | refine blk_alloc ?_ _)); exact BK135.out⟩, ⟨by repeat (first | (with_reducible first | exact HB.out | apply below_alloc | apply pw_below_drewN | apply below_drew1 | refine below_set ?_ GE134.out | refine below_set ?_ GE135.out) | exact HB.out)⟩⟩
            · rw [if_neg c10] at H
              have c10b0 : (t137.toList == ([108, 101, 118, 101, 108] : List UInt8)) = false := beq_eq_false_iff_ne.mpr c10
              have c10b1 : (t137.toList != ([108, 101, 118, 101, 108] : List UInt8)) = true := bne_iff_ne.mpr c10
              (first | rw [c10b0] | (simp only [i64_w, i32_w]; rw [c10b0]) | skip)
              have H' := Aside0.mk H
              clear H
              go_wp2
              go_meet
              case rel => exact ⟨_, (false), (by first | rfl | (simp; done) | (simp [*]; done)), H', ⟨by have := HK1.out; first | omega | exact Nat.le_refl _⟩, ⟨by (with_reducible repeat (first | apply Kd.R_alloc | apply Kd.R_drewN | apply Kd.R_drew)); exact HO_5.out⟩, ⟨by (with_reducible repeat (first | refine blk_drewN ?_ _ | refine blk_drew ?_ | refine blk_alloc ?_ _)); exact BK134.out⟩, ⟨by (with_reducible repeat (first | refine blk_drewN ?_ _ | refine blk_drew ?_ | refine blk_alloc ?_ _)); exact BK135.out⟩, ⟨by repeat (first | (with_reducible first | exact HB.out | apply below_alloc | apply pw_below_drewN | apply below_drew1 | refine below_set ?_ GE134.out | refine below_set ?_ GE135.out) | exact HB.out)⟩⟩
          case rest =>
            clear HC9
            try clear c1
            try clear p1
            try clear q1
            try clear hx1
            try clear p2
            try clear c4
            try clear c6
            try clear c6b0
            try clear c7
            try clear c7b0
            try clear c9
            try clear c10
            try clear c10b0
            try clear c10b1
            try clear hcz5_0
            try clear hcz5_1
            try clear hcz5_2
            try clear hcz5_3
            try clear hcz5_4
            try clear hfz5_0
            try clear hfz5_1
            try clear hfz5_2
            try clear hfz5_3
            try clear hfz5_4
            try clear hx136_0
            try clear p136
            try clear p2
            try clear q136
            obtain ⟨kq, x31_8, rfl, HA, HJ8, HO_5, BK134, BK135, HB⟩ := hcut
            cases kq with
            | zero => exact absurd HA.out (by simp [montageref31_Parse.j1])
            | succ kj8 =>
              have H := HA.out
              clear HA
              simp only [montageref31_Parse.j1] at H
              by_cases c11 : x31_8 = true
              · subst c11
                have H1 : ((montageref31_number.f kj8 t138 1).bind fun t140 => (if t140 < 0 then (some (0, false, false, false, 0, 2)) else (if t140 > 3 then (some (0, false, false, false, 0, 7)) else ((montageref31_has.f kj8 x5_1 t137).bind fun t141 => (if t141 = true then (some (0, false, false, false, 0, 6)) else (if x5_1.length < 8796093022208 then (montageref31_Parse.l0 kj8 l0 (x5_1 ++ [t137]) (wrap64 (x6_1 + 1)) t140 x136001_1 x136002_1 x136003_1 x136004_1) else (none))))))) = some (r1, r2, r3, r4, r5, r6) := by rw [if_pos rfl] at H; exact H
                clear H
                have H := H1
                clear H1
                replace H := Option.bind_eq_some_iff.mp H
                obtain ⟨t140, A120, H⟩ := H
                replace H : (if t140 < 0 then (some (0, false, false, false, 0, 2)) else (if t140 > 3 then (some (0, false, false, false, 0, 7)) else ((montageref31_has.f kj8 x5_1 t137).bind fun t141 => (if t141 = true then (some (0, false, false, false, 0, 6)) else (if x5_1.length < 8796093022208 then (montageref31_Parse.l0 kj8 l0 (x5_1 ++ [t137]) (wrap64 (x6_1 + 1)) t140 x136001_1 x136002_1 x136003_1 x136004_1) else (none)))))) = some (r1, r2, r3, r4, r5, r6) := H
                have A12 := Aside0.mk A120
                clear A120
                by_cases c13 : t140 < 0
                · rw [if_pos c13] at H
                  have c13b0 : decide (t140 < 0) = true := decide_eq_true c13
                  clear c13
                  simp only [Option.some.injEq, Prod.mk.injEq] at H
                  obtain ⟨rfl, rfl, rfl, rfl, rfl, rfl⟩ := H
                  go_wp2_with (first | ((with_reducible refine gate_callee (f := 93) rfl ?_); refine goesL_ (some 33) rfl rfl Tryd.func93 (by kernel_rfl) rfl #[.string t138, .int .i64 1] rfl (by (try simp only [List.map_toArray, List.map_cons, List.map_nil]); first | done | rfl | (simp only [List.length_drop, List.length_take]; rfl)) ?_; (with_reducible refine (montageref31_number.calls kj8 t138 1 t140 _ A12.out).mono ?_); rintro e w' ⟨rfl, ⟨nd, rfl⟩⟩; refine ⟨_, rfl, ?_⟩; (try (rw [drewN_self wc]; generalize hq_ : World.drewN wc _ = wc; have n0_ : Aside0 (Kd.R Kd.string 9 wc w.heap.size (fun _ => True) u5 x5_1) := ⟨by rw [← hq_]; exact (by (with_reducible repeat (first | apply Kd.R_alloc | apply Kd.R_drewN | apply Kd.R_drew)); exact HO_5.out)⟩; have n1_ : Aside0 (wc.heap[gb134]? = some (.cells #[.int .i64 x135000_1, .bool x135001_1, .bool x135002_1, .bool x135003_1, .int .i64 x135004_1] 58 (0, 0))) := ⟨by rw [← hq_]; exact (by (with_reducible repeat (first | refine blk_drewN ?_ _ | refine blk_drew ?_ | refine blk_alloc ?_ _)); exact BK134.out)⟩; have n2_ : Aside0 (wc.heap[gb135]? = some (.cells #[.int .i64 x136000_1, .bool x136001_1, .bool x136002_1, .bool x136003_1, .int .i64 x136004_1] 58 (0, 0))) := ⟨by rw [← hq_]; exact (by (with_reducible repeat (first | refine blk_drewN ?_ _ | refine blk_drew ?_ | refine blk_alloc ?_ _)); exact BK135.out)⟩; have n3_ : Aside0 (Below w.heap.size w wc) := ⟨by rw [← hq_]; exact (by repeat (first | (with_reducible first | exact HB.out | apply below_alloc | apply pw_below_drewN | apply below_drew1 | refine below_set ?_ GE134.out | refine below_set ?_ GE135.out) | exact HB.out))⟩; clear HO_5 BK134 BK135 HB hq_; have HO_5 := n0_; have BK134 := n1_; have BK135 := n2_; have HB := n3_; clear n0_ n1_ n2_ n3_)); have hnb14 := NB134_135.out; have hnc14 := NB135_134.out; have hcz15_0 : wc.cell? ⟨gb134, 0, none⟩ = some (.int .i64 x135000_1) := (blk_cell BK134.out 0).trans rfl; have hcz15_1 : wc.cell? ⟨gb134, 1, none⟩ = some (.bool x135001_1) := (blk_cell BK134.out 1).trans rfl; have hcz15_2 : wc.cell? ⟨gb134, 2, none⟩ = some (.bool x135002_1) := (blk_cell BK134.out 2).trans rfl; have hcz15_3 : wc.cell? ⟨gb134, 3, none⟩ = some (.bool x135003_1) := (blk_cell BK134.out 3).trans rfl; have hcz15_4 : wc.cell? ⟨gb134, 4, none⟩ = some (.int .i64 x135004_1) := (blk_cell BK134.out 4).trans rfl; have hfz15_0 := blk_frozen BK134.out 0; have hfz15_1 := blk_frozen BK134.out 1; have hfz15_2 := blk_frozen BK134.out 2; have hfz15_3 := blk_frozen BK134.out 3; have hfz15_4 := blk_frozen BK134.out 4))
                  refine bodyPost_ret (results_ct rfl _ _ gb134 58 #[.int .i64 0, .bool false, .bool false, .bool false, .int .i64 0] (0, 0) _ rfl (by (with_reducible repeat (first | refine blk_drewN ?_ _ | refine blk_drew ?_ | refine blk_alloc ?_ _)); refine blk_put (cs := #[.int .i64 0, .bool false, .bool false, .bool false, .int .i64 x135004_1]) ?_ 4 _ rfl; (with_reducible repeat (first | refine blk_drewN ?_ _ | refine blk_drew ?_ | refine blk_alloc ?_ _)); refine blk_put (cs := #[.int .i64 0, .bool false, .bool false, .bool x135003_1, .int .i64 x135004_1]) ?_ 3 _ rfl; (with_reducible repeat (first | refine blk_drewN ?_ _ | refine blk_drew ?_ | refine blk_alloc ?_ _)); refine blk_put (cs := #[.int .i64 0, .bool false, .bool x135002_1, .bool x135003_1, .int .i64 x135004_1]) ?_ 2 _ rfl; (with_reducible repeat (first | refine blk_drewN ?_ _ | refine blk_drew ?_ | refine blk_alloc ?_ _)); refine blk_put (cs := #[.int .i64 0, .bool x135001_1, .bool x135002_1, .bool x135003_1, .int .i64 x135004_1]) ?_ 1 _ rfl; (with_reducible repeat (first | refine blk_drewN ?_ _ | refine blk_drew ?_ | refine blk_alloc ?_ _)); refine blk_put (cs := #[.int .i64 x135000_1, .bool x135001_1, .bool x135002_1, .bool x135003_1, .int .i64 x135004_1]) ?_ 0 _ rfl; (with_reducible repeat (first | refine blk_drewN ?_ _ | refine blk_drew ?_ | refine blk_alloc ?_ _)); exact BK134.out) Tryd.underlying58 rfl (by kernel_rfl)) rfl ?_
                  exact ⟨by first | rfl | (simp [errW_none, errW_some] <;> rfl) | (simp [*, errW_none, errW_some] <;> rfl), by repeat (first | (with_reducible first | exact HB.out | apply below_alloc | apply pw_below_drewN | apply below_drew1 | refine below_set ?_ GE134.out | refine below_set ?_ GE135.out) | exact HB.out)⟩
                · rw [if_neg c13] at H
                  have c13b0 : decide (t140 < 0) = false := decide_eq_false c13
                  clear c13
                  by_cases c16 : t140 > 3
                  · rw [if_pos c16] at H
                    have c16b0 : decide (3 < t140) = true := decide_eq_true c16
                    clear c16
                    simp only [Option.some.injEq, Prod.mk.injEq] at H
                    obtain ⟨rfl, rfl, rfl, rfl, rfl, rfl⟩ := H
                    go_wp2_with (first | ((with_reducible refine gate_callee (f := 93) rfl ?_); refine goesL_ (some 33) rfl rfl Tryd.func93 (by kernel_rfl) rfl #[.string t138, .int .i64 1] rfl (by (try simp only [List.map_toArray, List.map_cons, List.map_nil]); first | done | rfl | (simp only [List.length_drop, List.length_take]; rfl)) ?_; (with_reducible refine (montageref31_number.calls kj8 t138 1 t140 _ A12.out).mono ?_); rintro e w' ⟨rfl, ⟨nd, rfl⟩⟩; refine ⟨_, rfl, ?_⟩; (try (rw [drewN_self wc]; generalize hq_ : World.drewN wc _ = wc; have n0_ : Aside0 (Kd.R Kd.string 9 wc w.heap.size (fun _ => True) u5 x5_1) := ⟨by rw [← hq_]; exact (by (with_reducible repeat (first | apply Kd.R_alloc | apply Kd.R_drewN | apply Kd.R_drew)); exact HO_5.out)⟩; have n1_ : Aside0 (wc.heap[gb134]? = some (.cells #[.int .i64 x135000_1, .bool x135001_1, .bool x135002_1, .bool x135003_1, .int .i64 x135004_1] 58 (0, 0))) := ⟨by rw [← hq_]; exact (by (with_reducible repeat (first | refine blk_drewN ?_ _ | refine blk_drew ?_ | refine blk_alloc ?_ _)); exact BK134.out)⟩; have n2_ : Aside0 (wc.heap[gb135]? = some (.cells #[.int .i64 x136000_1, .bool x136001_1, .bool x136002_1, .bool x136003_1, .int .i64 x136004_1] 58 (0, 0))) := ⟨by rw [← hq_]; exact (by (with_reducible repeat (first | refine blk_drewN ?_ _ | refine blk_drew ?_ | refine blk_alloc ?_ _)); exact BK135.out)⟩; have n3_ : Aside0 (Below w.heap.size w wc) := ⟨by rw [← hq_]; exact (by repeat (first | (with_reducible first | exact HB.out | apply below_alloc | apply pw_below_drewN | apply below_drew1 | refine below_set ?_ GE134.out | refine below_set ?_ GE135.out) | exact HB.out))⟩; clear HO_5 BK134 BK135 HB hq_; have HO_5 := n0_; have BK134 := n1_; have BK135 := n2_; have HB := n3_; clear n0_ n1_ n2_ n3_)); have hnb17 := NB134_135.out; have hnc17 := NB135_134.out; have hcz18_0 : wc.cell? ⟨gb134, 0, none⟩ = some (.int .i64 x135000_1) := (blk_cell BK134.out 0).trans rfl; have hcz18_1 : wc.cell? ⟨gb134, 1, none⟩ = some (.bool x135001_1) := (blk_cell BK134.out 1).trans rfl; have hcz18_2 : wc.cell? ⟨gb134, 2, none⟩ = some (.bool x135002_1) := (blk_cell BK134.out 2).trans rfl; have hcz18_3 : wc.cell? ⟨gb134, 3, none⟩ = some (.bool x135003_1) := (blk_cell BK134.out 3).trans rfl; have hcz18_4 : wc.cell? ⟨gb134, 4, none⟩ = some (.int .i64 x135004_1) := (blk_cell BK134.out 4).trans rfl; have hfz18_0 := blk_frozen BK134.out 0; have hfz18_1 := blk_frozen BK134.out 1; have hfz18_2 := blk_frozen BK134.out 2; have hfz18_3 := blk_frozen BK134.out 3; have hfz18_4 := blk_frozen BK134.out 4))
                    refine bodyPost_ret (results_ct rfl _ _ gb134 58 #[.int .i64 0, .bool false, .bool false, .bool false, .int .i64 0] (0, 0) _ rfl (by (with_reducible repeat (first | refine blk_drewN ?_ _ | refine blk_drew ?_ | refine blk_alloc ?_ _)); refine blk_put (cs := #[.int .i64 0, .bool false, .bool false, .bool false, .int .i64 x135004_1]) ?_ 4 _ rfl; (with_reducible repeat (first | refine blk_drewN ?_ _ | refine blk_drew ?_ | refine blk_alloc ?_ _)); refine blk_put (cs := #[.int .i64 0, .bool false, .bool false, .bool x135003_1, .int .i64 x135004_1]) ?_ 3 _ rfl; (with_reducible repeat (first | refine blk_drewN ?_ _ | refine blk_drew ?_ | refine blk_alloc ?_ _)); refine blk_put (cs := #[.int .i64 0, .bool false, .bool x135002_1, .bool x135003_1, .int .i64 x135004_1]) ?_ 2 _ rfl; (with_reducible repeat (first | refine blk_drewN ?_ _ | refine blk_drew ?_ | refine blk_alloc ?_ _)); refine blk_put (cs := #[.int .i64 0, .bool x135001_1, .bool x135002_1, .bool x135003_1, .int .i64 x135004_1]) ?_ 1 _ rfl; (with_reducible repeat (first | refine blk_drewN ?_ _ | refine blk_drew ?_ | refine blk_alloc ?_ _)); refine blk_put (cs := #[.int .i64 x135000_1, .bool x135001_1, .bool x135002_1, .bool x135003_1, .int .i64 x135004_1]) ?_ 0 _ rfl; (with_reducible repeat (first | refine blk_drewN ?_ _ | refine blk_drew ?_ | refine blk_alloc ?_ _)); exact BK134.out) Tryd.underlying58 rfl (by kernel_rfl)) rfl ?_
                    exact ⟨by first | rfl | (simp [errW_none, errW_some] <;> rfl) | (simp [*, errW_none, errW_some] <;> rfl), by repeat (first | (with_reducible first | exact HB.out | apply below_alloc | apply pw_below_drewN | apply below_drew1 | refine below_set ?_ GE134.out | refine below_set ?_ GE135.out) | exact HB.out)⟩
                  · rw [if_neg c16] at H
                    have c16b0 : decide (3 < t140) = false := decide_eq_false c16
                    clear c16
                    replace H := Option.bind_eq_some_iff.mp H
                    obtain ⟨t141, A190, H⟩ := H
                    replace H : (if t141 = true then (some (0, false, false, false, 0, 6)) else (if x5_1.length < 8796093022208 then (montageref31_Parse.l0 kj8 l0 (x5_1 ++ [t137]) (wrap64 (x6_1 + 1)) t140 x136001_1 x136002_1 x136003_1 x136004_1) else (none))) = some (r1, r2, r3, r4, r5, r6) := H
                    have A19 := Aside0.mk A190
                    clear A190
                    by_cases c20 : t141 = true
                    · subst c20
                      have H1 : (some (0, false, false, false, 0, 6)) = some (r1, r2, r3, r4, r5, r6) := by rw [if_pos rfl] at H; exact H
                      clear H
                      have H := H1
                      clear H1
                      simp only [Option.some.injEq, Prod.mk.injEq] at H
                      obtain ⟨rfl, rfl, rfl, rfl, rfl, rfl⟩ := H
                      go_wp2_with (first | ((with_reducible refine gate_callee (f := 93) rfl ?_); refine goesL_ (some 33) rfl rfl Tryd.func93 (by kernel_rfl) rfl #[.string t138, .int .i64 1] rfl (by (try simp only [List.map_toArray, List.map_cons, List.map_nil]); first | done | rfl | (simp only [List.length_drop, List.length_take]; rfl)) ?_; (with_reducible refine (montageref31_number.calls kj8 t138 1 t140 _ A12.out).mono ?_); rintro e w' ⟨rfl, ⟨nd, rfl⟩⟩; refine ⟨_, rfl, ?_⟩; (try (rw [drewN_self wc]; generalize hq_ : World.drewN wc _ = wc; have n0_ : Aside0 (Kd.R Kd.string 9 wc w.heap.size (fun _ => True) u5 x5_1) := ⟨by rw [← hq_]; exact (by (with_reducible repeat (first | apply Kd.R_alloc | apply Kd.R_drewN | apply Kd.R_drew)); exact HO_5.out)⟩; have n1_ : Aside0 (wc.heap[gb134]? = some (.cells #[.int .i64 x135000_1, .bool x135001_1, .bool x135002_1, .bool x135003_1, .int .i64 x135004_1] 58 (0, 0))) := ⟨by rw [← hq_]; exact (by (with_reducible repeat (first | refine blk_drewN ?_ _ | refine blk_drew ?_ | refine blk_alloc ?_ _)); exact BK134.out)⟩; have n2_ : Aside0 (wc.heap[gb135]? = some (.cells #[.int .i64 x136000_1, .bool x136001_1, .bool x136002_1, .bool x136003_1, .int .i64 x136004_1] 58 (0, 0))) := ⟨by rw [← hq_]; exact (by (with_reducible repeat (first | refine blk_drewN ?_ _ | refine blk_drew ?_ | refine blk_alloc ?_ _)); exact BK135.out)⟩; have n3_ : Aside0 (Below w.heap.size w wc) := ⟨by rw [← hq_]; exact (by repeat (first | (with_reducible first | exact HB.out | apply below_alloc | apply pw_below_drewN | apply below_drew1 | refine below_set ?_ GE134.out | refine below_set ?_ GE135.out) | exact HB.out))⟩; clear HO_5 BK134 BK135 HB hq_; have HO_5 := n0_; have BK134 := n1_; have BK135 := n2_; have HB := n3_; clear n0_ n1_ n2_ n3_)); have hnb21 := NB135_134.out; have hnc21 := NB134_135.out; have hcz22_0 : wc.cell? ⟨gb135, 0, none⟩ = some (.int .i64 x136000_1) := (blk_cell BK135.out 0).trans rfl; have hcz22_1 : wc.cell? ⟨gb135, 1, none⟩ = some (.bool x136001_1) := (blk_cell BK135.out 1).trans rfl; have hcz22_2 : wc.cell? ⟨gb135, 2, none⟩ = some (.bool x136002_1) := (blk_cell BK135.out 2).trans rfl; have hcz22_3 : wc.cell? ⟨gb135, 3, none⟩ = some (.bool x136003_1) := (blk_cell BK135.out 3).trans rfl; have hcz22_4 : wc.cell? ⟨gb135, 4, none⟩ = some (.int .i64 x136004_1) := (blk_cell BK135.out 4).trans rfl; have hfz22_0 := blk_frozen BK135.out 0; have hfz22_1 := blk_frozen BK135.out 1; have hfz22_2 := blk_frozen BK135.out 2; have hfz22_3 := blk_frozen BK135.out 3; have hfz22_4 := blk_frozen BK135.out 4; obtain ⟨Ao23, co23, eo23⟩ := Kd.R_slice HO_5.out; subst eo23) | ((with_reducible refine gate_callee (f := 94) rfl ?_); refine goesL_ (some 78) rfl rfl Tryd.func94 (by kernel_rfl) rfl #[.slice Ao23 x5_1.length co23, .string t137] rfl (by (try simp only [List.map_toArray, List.map_cons, List.map_nil]); first | done | rfl | (simp only [List.length_drop, List.length_take]; rfl)) ?_; (with_reducible refine (montageref31_has.calls kj8 _ _ x5_1 t137 true _ ?side1 ?side2 A19.out).mono ?_); (case side1 => refine (Kd.R_reads' (e := 9) (base := w.heap.size) (ok := fun k_ => True) (n := x5_1.length) (c := co23) ?_).2.2; exact (by (with_reducible repeat (first | apply Kd.R_alloc | apply Kd.R_drewN | apply Kd.R_drew)); exact (Kd.R_mono (Kd.R_far (p := ⟨gb135, 0, none⟩) (Kd.R_types HO_5.out BK135.out (by decide)) (fun _ hk => hk.2) (.int .i64 t140)) (fun _ h_ => h_.1)))); (case side2 => exact (Kd.R_reads' HO_5.out).2.1); rintro e w' ⟨rfl, ⟨nd, rfl⟩⟩; refine ⟨_, rfl, ?_⟩; have hcz24_0 : wc.cell? ⟨gb134, 0, none⟩ = some (.int .i64 x135000_1) := (blk_cell BK134.out 0).trans rfl; have hcz24_1 : wc.cell? ⟨gb134, 1, none⟩ = some (.bool x135001_1) := (blk_cell BK134.out 1).trans rfl; have hcz24_2 : wc.cell? ⟨gb134, 2, none⟩ = some (.bool x135002_1) := (blk_cell BK134.out 2).trans rfl; have hcz24_3 : wc.cell? ⟨gb134, 3, none⟩ = some (.bool x135003_1) := (blk_cell BK134.out 3).trans rfl; have hcz24_4 : wc.cell? ⟨gb134, 4, none⟩ = some (.int .i64 x135004_1) := (blk_cell BK134.out 4).trans rfl; have hfz24_0 := blk_frozen BK134.out 0; have hfz24_1 := blk_frozen BK134.out 1; have hfz24_2 := blk_frozen BK134.out 2; have hfz24_3 := blk_frozen BK134.out 3; have hfz24_4 := blk_frozen BK134.out 4))
                      refine bodyPost_ret (results_ct rfl _ _ gb134 58 #[.int .i64 0, .bool false, .bool false, .bool false, .int .i64 0] (0, 0) _ rfl (by (with_reducible repeat (first | refine blk_drewN ?_ _ | refine blk_drew ?_ | refine blk_alloc ?_ _)); refine blk_put (cs := #[.int .i64 0, .bool false, .bool false, .bool false, .int .i64 x135004_1]) ?_ 4 _ rfl; (with_reducible repeat (first | refine blk_drewN ?_ _ | refine blk_drew ?_ | refine blk_alloc ?_ _)); refine blk_put (cs := #[.int .i64 0, .bool false, .bool false, .bool x135003_1, .int .i64 x135004_1]) ?_ 3 _ rfl; (with_reducible repeat (first | refine blk_drewN ?_ _ | refine blk_drew ?_ | refine blk_alloc ?_ _)); refine blk_put (cs := #[.int .i64 0, .bool false, .bool x135002_1, .bool x135003_1, .int .i64 x135004_1]) ?_ 2 _ rfl; (with_reducible repeat (first | refine blk_drewN ?_ _ | refine blk_drew ?_ | refine blk_alloc ?_ _)); refine blk_put (cs := #[.int .i64 0, .bool x135001_1, .bool x135002_1, .bool x135003_1, .int .i64 x135004_1]) ?_ 1 _ rfl; (with_reducible repeat (first | refine blk_drewN ?_ _ | refine blk_drew ?_ | refine blk_alloc ?_ _)); refine blk_put (cs := #[.int .i64 x135000_1, .bool x135001_1, .bool x135002_1, .bool x135003_1, .int .i64 x135004_1]) ?_ 0 _ rfl; (with_reducible repeat (first | refine blk_drewN ?_ _ | refine blk_drew ?_ | refine blk_alloc ?_ _)); refine blk_far ?_ NB134_135.out _; (with_reducible repeat (first | refine blk_drewN ?_ _ | refine blk_drew ?_ | refine blk_alloc ?_ _)); exact BK134.out) Tryd.underlying58 rfl (by kernel_rfl)) rfl ?_
                      exact ⟨by first | rfl | (simp [errW_none, errW_some] <;> rfl) | (simp [*, errW_none, errW_some] <;> rfl), by repeat (first | (with_reducible first | exact HB.out | apply below_alloc | apply pw_below_drewN | apply below_drew1 | refine below_set ?_ GE134.out | refine below_set ?_ GE135.out) | exact HB.out)⟩
                    · replace c20 := Bool.eq_false_iff.mpr c20
                      subst c20
                      have H1 : (if x5_1.length < 8796093022208 then (montageref31_Parse.l0 kj8 l0 (x5_1 ++ [t137]) (wrap64 (x6_1 + 1)) t140 x136001_1 x136002_1 x136003_1 x136004_1) else (none)) = some (r1, r2, r3, r4, r5, r6) := by rw [if_neg (show ¬ (false = true) by decide)] at H; exact H
                      clear H
                      have H := H1
                      clear H1
                      by_cases c25 : x5_1.length < 8796093022208
                      · rw [if_pos c25] at H
                        have LMc25 := Aside0.mk c25
                        clear c25
                        obtain ⟨y142, hy142⟩ : ∃ y_ : List ByteArray, y_ = (x5_1 ++ [t137]) := ⟨_, rfl⟩
                        replace H : (montageref31_Parse.l0 kj8 l0 y142 (wrap64 (x6_1 + 1)) t140 x136001_1 x136002_1 x136003_1 x136004_1) = some (r1, r2, r3, r4, r5, r6) := by first | (rw [hy142]; with_reducible exact H) | (have H2_ := (Option.bind_some _ _).symm.trans H; rw [hy142]; with_reducible exact H2_) | (have H2_ := (Option.bind_some _ _).symm.trans H; with_reducible exact H2_) | with_reducible exact H | (rw [hy142]; exact H) | exact H
                        have Ny142 := Aside0.mk hy142
                        clear hy142
                        have H' := Aside0.mk H
                        clear H
                        go_wp2_with (first | ((with_reducible refine gate_callee (f := 93) rfl ?_); refine goesL_ (some 33) rfl rfl Tryd.func93 (by kernel_rfl) rfl #[.string t138, .int .i64 1] rfl (by (try simp only [List.map_toArray, List.map_cons, List.map_nil]); first | done | rfl | (simp only [List.length_drop, List.length_take]; rfl)) ?_; (with_reducible refine (montageref31_number.calls kj8 t138 1 t140 _ A12.out).mono ?_); rintro e w' ⟨rfl, ⟨nd, rfl⟩⟩; refine ⟨_, rfl, ?_⟩; (try (rw [drewN_self wc]; generalize hq_ : World.drewN wc _ = wc; have n0_ : Aside0 (Kd.R Kd.string 9 wc w.heap.size (fun _ => True) u5 x5_1) := ⟨by rw [← hq_]; exact (by (with_reducible repeat (first | apply Kd.R_alloc | apply Kd.R_drewN | apply Kd.R_drew)); exact HO_5.out)⟩; have n1_ : Aside0 (wc.heap[gb134]? = some (.cells #[.int .i64 x135000_1, .bool x135001_1, .bool x135002_1, .bool x135003_1, .int .i64 x135004_1] 58 (0, 0))) := ⟨by rw [← hq_]; exact (by (with_reducible repeat (first | refine blk_drewN ?_ _ | refine blk_drew ?_ | refine blk_alloc ?_ _)); exact BK134.out)⟩; have n2_ : Aside0 (wc.heap[gb135]? = some (.cells #[.int .i64 x136000_1, .bool x136001_1, .bool x136002_1, .bool x136003_1, .int .i64 x136004_1] 58 (0, 0))) := ⟨by rw [← hq_]; exact (by (with_reducible repeat (first | refine blk_drewN ?_ _ | refine blk_drew ?_ | refine blk_alloc ?_ _)); exact BK135.out)⟩; have n3_ : Aside0 (Below w.heap.size w wc) := ⟨by rw [← hq_]; exact (by repeat (first | (with_reducible first | exact HB.out | apply below_alloc | apply pw_below_drewN | apply below_drew1 | refine below_set ?_ GE134.out | refine below_set ?_ GE135.out) | exact HB.out))⟩; clear HO_5 BK134 BK135 HB hq_; have HO_5 := n0_; have BK134 := n1_; have BK135 := n2_; have HB := n3_; clear n0_ n1_ n2_ n3_)); have hnb26 := NB135_134.out; have hnc26 := NB134_135.out; have hcz27_0 : wc.cell? ⟨gb135, 0, none⟩ = some (.int .i64 x136000_1) := (blk_cell BK135.out 0).trans rfl; have hcz27_1 : wc.cell? ⟨gb135, 1, none⟩ = some (.bool x136001_1) := (blk_cell BK135.out 1).trans rfl; have hcz27_2 : wc.cell? ⟨gb135, 2, none⟩ = some (.bool x136002_1) := (blk_cell BK135.out 2).trans rfl; have hcz27_3 : wc.cell? ⟨gb135, 3, none⟩ = some (.bool x136003_1) := (blk_cell BK135.out 3).trans rfl; have hcz27_4 : wc.cell? ⟨gb135, 4, none⟩ = some (.int .i64 x136004_1) := (blk_cell BK135.out 4).trans rfl; have hfz27_0 := blk_frozen BK135.out 0; have hfz27_1 := blk_frozen BK135.out 1; have hfz27_2 := blk_frozen BK135.out 2; have hfz27_3 := blk_frozen BK135.out 3; have hfz27_4 := blk_frozen BK135.out 4; obtain ⟨Ao28, co28, eo28⟩ := Kd.R_slice HO_5.out; subst eo28) | ((with_reducible refine gate_callee (f := 94) rfl ?_); refine goesL_ (some 78) rfl rfl Tryd.func94 (by kernel_rfl) rfl #[.slice Ao28 x5_1.length co28, .string t137] rfl (by (try simp only [List.map_toArray, List.map_cons, List.map_nil]); first | done | rfl | (simp only [List.length_drop, List.length_take]; rfl)) ?_; (with_reducible refine (montageref31_has.calls kj8 _ _ x5_1 t137 false _ ?side1 ?side2 A19.out).mono ?_); (case side1 => refine (Kd.R_reads' (e := 9) (base := w.heap.size) (ok := fun k_ => True) (n := x5_1.length) (c := co28) ?_).2.2; exact (by (with_reducible repeat (first | apply Kd.R_alloc | apply Kd.R_drewN | apply Kd.R_drew)); exact (Kd.R_mono (Kd.R_far (p := ⟨gb135, 0, none⟩) (Kd.R_types HO_5.out BK135.out (by decide)) (fun _ hk => hk.2) (.int .i64 t140)) (fun _ h_ => h_.1)))); (case side2 => exact (Kd.R_reads' HO_5.out).2.1); rintro e w' ⟨rfl, ⟨nd, rfl⟩⟩; refine ⟨_, rfl, ?_⟩) | ((with_reducible refine gate_builtin (b := .append) (xs := #[.tmp 80, .tmp 82]) rfl ?_); at_builtin; refine Kd.R_append Kd.string (w0 := w) w.heap.size rfl (.tmp 80) (.tmp 82) 56 9 (.string ⟨#[]⟩) 16 rfl Tryd.underlying56 info9 rfl (by decide) (by omega) (.slice Ao28 x5_1.length co28) x5_1 t137 [.string t137] (fun _ => True) (fun _ => False) rfl (by first | (go_simp; done) | (go_simp; rfl)) ?aP (fun _ hk => hk.elim) ?aF ?aO ?aB ?aS ?aL ?_; (case aP => exact rfl); (case aB => exact (by repeat (first | (with_reducible first | exact HB.out | apply below_alloc | apply pw_below_drewN | apply below_drew1 | refine below_set ?_ GE134.out | refine below_set ?_ GE135.out) | exact HB.out))); (case aF => exact (fun _ _ => trivial)); (case aO => exact (by (with_reducible repeat (first | apply Kd.R_alloc | apply Kd.R_drewN | apply Kd.R_drew)); exact Kd.R_mono (Kd.R_far (p := ⟨gb135, 0, none⟩) (Kd.R_types HO_5.out BK135.out (by decide)) (fun _ hk => hk.2) (.int .i64 t140)) (fun _ hk => trivial))); (case aS => exact (below_size (by repeat (first | (with_reducible first | exact HB.out | apply below_alloc | apply pw_below_drewN | apply below_drew1 | refine below_set ?_ GE134.out | refine below_set ?_ GE135.out) | exact HB.out)))); (case aL => have := LMc25.out; omega); intro v143 w29 ho hb hg hat; rw [← Ny142.out] at ho; have n0_ := Aside0.mk (blk_grown (g := gb134) (o := .cells #[.int .i64 x135000_1, .bool x135001_1, .bool x135002_1, .bool x135003_1, .int .i64 x135004_1] 58 (0, 0)) (by (with_reducible repeat (first | refine blk_drewN ?_ _ | refine blk_drew ?_ | refine blk_alloc ?_ _)); refine blk_far ?_ NB134_135.out _; (with_reducible repeat (first | refine blk_drewN ?_ _ | refine blk_drew ?_ | refine blk_alloc ?_ _)); exact BK134.out) hg (Kd.R_ne HO_5.out BK134.out (by decide))); have n1_ := Aside0.mk (blk_grown (g := gb135) (o := .cells #[.int .i64 t140, .bool x136001_1, .bool x136002_1, .bool x136003_1, .int .i64 x136004_1] 58 (0, 0)) (by (with_reducible repeat (first | refine blk_drewN ?_ _ | refine blk_drew ?_ | refine blk_alloc ?_ _)); refine blk_put (cs := #[.int .i64 x136000_1, .bool x136001_1, .bool x136002_1, .bool x136003_1, .int .i64 x136004_1]) ?_ 0 _ rfl; (with_reducible repeat (first | refine blk_drewN ?_ _ | refine blk_drew ?_ | refine blk_alloc ?_ _)); exact BK135.out) hg (Kd.R_ne HO_5.out BK135.out (by decide))); have n2_ := Aside0.mk (hb); have n3_ := Aside0.mk (ho); clear BK134; clear BK135; clear HB; clear HO_5; have BK134 := n0_; have BK135 := n1_; have HB := n2_; have HO144 := n3_; clear n0_ n1_ n2_ n3_; clear ho hb hg hat))
                        go_roundg kj8
                        case measure => have := HK1.out; have := HJ8.out; omega
                        case rel => exact ⟨(y142), (wrap64 (x6_1 + 1)), (x135000_1), (x135001_1), (x135002_1), (x135003_1), (x135004_1), (t140), (x136001_1), (x136002_1), (x136003_1), (x136004_1), (by first | rfl | (simp; done) | (simp [*]; done)), H', ⟨by have := HK1.out; have := HJ8.out; omega⟩, ⟨by (with_reducible repeat (first | apply Kd.R_alloc | apply Kd.R_drewN | apply Kd.R_drew)); exact HO144.out⟩, ⟨by (with_reducible repeat (first | refine blk_drewN ?_ _ | refine blk_drew ?_ | refine blk_alloc ?_ _)); exact BK134.out⟩, ⟨by (with_reducible repeat (first | refine blk_drewN ?_ _ | refine blk_drew ?_ | refine blk_alloc ?_ _)); exact BK135.out⟩, ⟨by repeat (first | (with_reducible first | exact HB.out | apply below_alloc | apply pw_below_drewN | apply below_drew1 | refine below_set ?_ GE134.out | refine below_set ?_ GE135.out) | exact HB.out)⟩⟩
                      · rw [if_neg c25] at H
                        exact absurd H (by simp)
              · replace c11 := Bool.eq_false_iff.mpr c11
                subst c11
                have H1 : (if t137.toList = ([109, 111, 115, 116] : List UInt8) then (montageref31_Parse.j2 kj8 l0 x5_1 x6_1 t137 t138 t139 x136000_1 x136001_1 x136002_1 x136003_1 x136004_1) else (montageref31_Parse.j2 kj8 l0 x5_1 x6_1 t137 t138 false x136000_1 x136001_1 x136002_1 x136003_1 x136004_1)) = some (r1, r2, r3, r4, r5, r6) := by rw [if_neg (show ¬ (false = true) by decide)] at H; exact H
                clear H
                have H := H1
                clear H1
                have HC30 := Aside0.mk H
                clear H
                go_upto_region 15 with (fail)
                go_cut [46] (fun v46 wc => ∃ (kq : Nat) (x46_29 : Bool), v46 = .bool x46_29 ∧ Aside0 (montageref31_Parse.j2 kq l0 x5_1 x6_1 t137 t138 x46_29 x136000_1 x136001_1 x136002_1 x136003_1 x136004_1 = some (r1, r2, r3, r4, r5, r6)) ∧ Aside0 (kq ≤ kj8) ∧ Aside0 (Kd.R Kd.string 9 wc w.heap.size (fun _ => True) u5 x5_1) ∧ Aside0 (wc.heap[gb134]? = some (.cells #[.int .i64 x135000_1, .bool x135001_1, .bool x135002_1, .bool x135003_1, .int .i64 x135004_1] 58 (0, 0))) ∧ Aside0 (wc.heap[gb135]? = some (.cells #[.int .i64 x136000_1, .bool x136001_1, .bool x136002_1, .bool x136003_1, .int .i64 x136004_1] 58 (0, 0))) ∧ Aside0 (Below w.heap.size w wc))
                case first =>
                  have H := HC30.out
                  clear HC30
                  by_cases c31 : t137.toList = ([109, 111, 115, 116] : List UInt8)
                  · rw [if_pos c31] at H
                    have c31b0 : (t137.toList == ([109, 111, 115, 116] : List UInt8)) = true := beq_iff_eq.mpr c31
                    have c31b1 : (t137.toList != ([109, 111, 115, 116] : List UInt8)) = false := bne_eq_false_iff_eq.mpr c31
                    clear c31
                    (first | rw [c31b0] | (simp only [i64_w, i32_w]; rw [c31b0]) | skip)
                    have H' := Aside0.mk H
                    clear H
                    go_wp2
                    go_meet
                    case rel => exact ⟨_, (t139), (by first | rfl | (simp; done) | (simp [*]; done)), H', ⟨by have := HK1.out; have := HJ8.out; first | omega | exact Nat.le_refl _⟩, ⟨by (with_reducible repeat (first | apply Kd.R_alloc | apply Kd.R_drewN | apply Kd.R_drew)); exact HO_5.out⟩, ⟨by (with_reducible repeat (first | refine blk_drewN ?_ _ | refine blk_drew ?_ | refine blk_alloc ?_ _)); exact BK134.out⟩, ⟨by (with_reducible repeat (first | refine blk_drewN ?_ _ | refine blk_drew ?_ | refine blk_alloc ?_ _)); exact BK135.out⟩, ⟨by repeat (first | (with_reducible first | exact HB.out | apply below_alloc | apply pw_below_drewN | apply below_drew1 | refine below_set ?_ GE134.out | refine below_set ?_ GE135.out) | exact HB.out)⟩⟩
                  · rw [if_neg c31] at H
                    have c31b0 : (t137.toList == ([109, 111, 115, 116] : List UInt8)) = false := beq_eq_false_iff_ne.mpr c31
                    have c31b1 : (t137.toList != ([109, 111, 115, 116] : List UInt8)) = true := bne_iff_ne.mpr c31
                    (first | rw [c31b0] | (simp only [i64_w, i32_w]; rw [c31b0]) | skip)
                    have H' := Aside0.mk H
                    clear H
                    go_wp2
                    go_meet
                    case rel => exact ⟨_, (false), (by first | rfl | (simp; done) | (simp [*]; done)), H', ⟨by have := HK1.out; have := HJ8.out; first | omega | exact Nat.le_refl _⟩, ⟨by (with_reducible repeat (first | apply Kd.R_alloc | apply Kd.R_drewN | apply Kd.R_drew)); exact HO_5.out⟩, ⟨by (with_reducible repeat (first | refine blk_drewN ?_ _ | refine blk_drew ?_ | refine blk_alloc ?_ _)); exact BK134.out⟩, ⟨by (with_reducible repeat (first | refine blk_drewN ?_ _ | refine blk_drew ?_ | refine blk_alloc ?_ _)); exact BK135.out⟩, ⟨by repeat (first | (with_reducible first | exact HB.out | apply below_alloc | apply pw_below_drewN | apply below_drew1 | refine below_set ?_ GE134.out | refine below_set ?_ GE135.out) | exact HB.out)⟩⟩
                case rest =>
                  clear HC30
                  try clear c1
                  try clear p1
                  try clear q1
                  try clear hx1
                  try clear c2
                  try clear p2
                  try clear c3
                  try clear c4
                  try clear c6
                  try clear c6b0
                  try clear p6
                  try clear c7
                  try clear c7b0
                  try clear c9
                  try clear c10
                  try clear c10b0
                  try clear c10b1
                  try clear c11
                  try clear c13
                  try clear c13b0
                  try clear p13
                  try clear q13
                  try clear hx13
                  try clear c14
                  try clear c16
                  try clear c16b0
                  try clear c17
                  try clear c20
                  try clear c21
                  try clear c25
                  try clear c26
                  try clear c31
                  try clear c31b0
                  try clear c31b1
                  try clear hcz15_0
                  try clear hcz15_1
                  try clear hcz15_2
                  try clear hcz15_3
                  try clear hcz15_4
                  try clear hcz18_0
                  try clear hcz18_1
                  try clear hcz18_2
                  try clear hcz18_3
                  try clear hcz18_4
                  try clear hcz22_0
                  try clear hcz22_1
                  try clear hcz22_2
                  try clear hcz22_3
                  try clear hcz22_4
                  try clear hcz24_0
                  try clear hcz24_1
                  try clear hcz24_2
                  try clear hcz24_3
                  try clear hcz24_4
                  try clear hcz27_0
                  try clear hcz27_1
                  try clear hcz27_2
                  try clear hcz27_3
                  try clear hcz27_4
                  try clear hcz5_0
                  try clear hcz5_1
                  try clear hcz5_2
                  try clear hcz5_3
                  try clear hcz5_4
                  try clear hfz15_0
                  try clear hfz15_1
                  try clear hfz15_2
                  try clear hfz15_3
                  try clear hfz15_4
                  try clear hfz18_0
                  try clear hfz18_1
                  try clear hfz18_2
                  try clear hfz18_3
                  try clear hfz18_4
                  try clear hfz22_0
                  try clear hfz22_1
                  try clear hfz22_2
                  try clear hfz22_3
                  try clear hfz22_4
                  try clear hfz24_0
                  try clear hfz24_1
                  try clear hfz24_2
                  try clear hfz24_3
                  try clear hfz24_4
                  try clear hfz27_0
                  try clear hfz27_1
                  try clear hfz27_2
                  try clear hfz27_3
                  try clear hfz27_4
                  try clear hfz5_0
                  try clear hfz5_1
                  try clear hfz5_2
                  try clear hfz5_3
                  try clear hfz5_4
                  try clear hx136_0
                  try clear p1
                  try clear p136
                  try clear p2
                  try clear q1
                  try clear q136
                  obtain ⟨kq, x46_29, rfl, HA, HJ29, HO_5, BK134, BK135, HB⟩ := hcut
                  cases kq with
                  | zero => exact absurd HA.out (by simp [montageref31_Parse.j2])
                  | succ kj29 =>
                    have H := HA.out
                    clear HA
                    simp only [montageref31_Parse.j2] at H
                    by_cases c32 : x46_29 = true
                    · subst c32
                      have H1 : ((montageref31_number.f kj29 t138 7).bind fun t145 => (if t145 < 0 then (some (0, false, false, false, 0, 2)) else (if t145 > 4194304 then (some (0, false, false, false, 0, 7)) else ((montageref31_has.f kj29 x5_1 t137).bind fun t146 => (if t146 = true then (some (0, false, false, false, 0, 6)) else (if x5_1.length < 8796093022208 then (montageref31_Parse.l0 kj29 l0 (x5_1 ++ [t137]) (wrap64 (x6_1 + 1)) x136000_1 x136001_1 x136002_1 x136003_1 t145) else (none))))))) = some (r1, r2, r3, r4, r5, r6) := by rw [if_pos rfl] at H; exact H
                      clear H
                      have H := H1
                      clear H1
                      replace H := Option.bind_eq_some_iff.mp H
                      obtain ⟨t145, A330, H⟩ := H
                      replace H : (if t145 < 0 then (some (0, false, false, false, 0, 2)) else (if t145 > 4194304 then (some (0, false, false, false, 0, 7)) else ((montageref31_has.f kj29 x5_1 t137).bind fun t146 => (if t146 = true then (some (0, false, false, false, 0, 6)) else (if x5_1.length < 8796093022208 then (montageref31_Parse.l0 kj29 l0 (x5_1 ++ [t137]) (wrap64 (x6_1 + 1)) x136000_1 x136001_1 x136002_1 x136003_1 t145) else (none)))))) = some (r1, r2, r3, r4, r5, r6) := H
                      have A33 := Aside0.mk A330
                      clear A330
                      by_cases c34 : t145 < 0
                      · rw [if_pos c34] at H
                        have c34b0 : decide (t145 < 0) = true := decide_eq_true c34
                        clear c34
                        simp only [Option.some.injEq, Prod.mk.injEq] at H
                        obtain ⟨rfl, rfl, rfl, rfl, rfl, rfl⟩ := H
                        go_wp2_with (first | ((with_reducible refine gate_callee (f := 93) rfl ?_); refine goesL_ (some 48) rfl rfl Tryd.func93 (by kernel_rfl) rfl #[.string t138, .int .i64 7] rfl (by (try simp only [List.map_toArray, List.map_cons, List.map_nil]); first | done | rfl | (simp only [List.length_drop, List.length_take]; rfl)) ?_; (with_reducible refine (montageref31_number.calls kj29 t138 7 t145 _ A33.out).mono ?_); rintro e w' ⟨rfl, ⟨nd, rfl⟩⟩; refine ⟨_, rfl, ?_⟩; (try (rw [drewN_self wc]; generalize hq_ : World.drewN wc _ = wc; have n0_ : Aside0 (Kd.R Kd.string 9 wc w.heap.size (fun _ => True) u5 x5_1) := ⟨by rw [← hq_]; exact (by (with_reducible repeat (first | apply Kd.R_alloc | apply Kd.R_drewN | apply Kd.R_drew)); exact HO_5.out)⟩; have n1_ : Aside0 (wc.heap[gb134]? = some (.cells #[.int .i64 x135000_1, .bool x135001_1, .bool x135002_1, .bool x135003_1, .int .i64 x135004_1] 58 (0, 0))) := ⟨by rw [← hq_]; exact (by (with_reducible repeat (first | refine blk_drewN ?_ _ | refine blk_drew ?_ | refine blk_alloc ?_ _)); exact BK134.out)⟩; have n2_ : Aside0 (wc.heap[gb135]? = some (.cells #[.int .i64 x136000_1, .bool x136001_1, .bool x136002_1, .bool x136003_1, .int .i64 x136004_1] 58 (0, 0))) := ⟨by rw [← hq_]; exact (by (with_reducible repeat (first | refine blk_drewN ?_ _ | refine blk_drew ?_ | refine blk_alloc ?_ _)); exact BK135.out)⟩; have n3_ : Aside0 (Below w.heap.size w wc) := ⟨by rw [← hq_]; exact (by repeat (first | (with_reducible first | exact HB.out | apply below_alloc | apply pw_below_drewN | apply below_drew1 | refine below_set ?_ GE134.out | refine below_set ?_ GE135.out) | exact HB.out))⟩; clear HO_5 BK134 BK135 HB hq_; have HO_5 := n0_; have BK134 := n1_; have BK135 := n2_; have HB := n3_; clear n0_ n1_ n2_ n3_)); have hnb35 := NB134_135.out; have hnc35 := NB135_134.out; have hcz36_0 : wc.cell? ⟨gb134, 0, none⟩ = some (.int .i64 x135000_1) := (blk_cell BK134.out 0).trans rfl; have hcz36_1 : wc.cell? ⟨gb134, 1, none⟩ = some (.bool x135001_1) := (blk_cell BK134.out 1).trans rfl; have hcz36_2 : wc.cell? ⟨gb134, 2, none⟩ = some (.bool x135002_1) := (blk_cell BK134.out 2).trans rfl; have hcz36_3 : wc.cell? ⟨gb134, 3, none⟩ = some (.bool x135003_1) := (blk_cell BK134.out 3).trans rfl; have hcz36_4 : wc.cell? ⟨gb134, 4, none⟩ = some (.int .i64 x135004_1) := (blk_cell BK134.out 4).trans rfl; have hfz36_0 := blk_frozen BK134.out 0; have hfz36_1 := blk_frozen BK134.out 1; have hfz36_2 := blk_frozen BK134.out 2; have hfz36_3 := blk_frozen BK134.out 3; have hfz36_4 := blk_frozen BK134.out 4))
                        refine bodyPost_ret (results_ct rfl _ _ gb134 58 #[.int .i64 0, .bool false, .bool false, .bool false, .int .i64 0] (0, 0) _ rfl (by (with_reducible repeat (first | refine blk_drewN ?_ _ | refine blk_drew ?_ | refine blk_alloc ?_ _)); refine blk_put (cs := #[.int .i64 0, .bool false, .bool false, .bool false, .int .i64 x135004_1]) ?_ 4 _ rfl; (with_reducible repeat (first | refine blk_drewN ?_ _ | refine blk_drew ?_ | refine blk_alloc ?_ _)); refine blk_put (cs := #[.int .i64 0, .bool false, .bool false, .bool x135003_1, .int .i64 x135004_1]) ?_ 3 _ rfl; (with_reducible repeat (first | refine blk_drewN ?_ _ | refine blk_drew ?_ | refine blk_alloc ?_ _)); refine blk_put (cs := #[.int .i64 0, .bool false, .bool x135002_1, .bool x135003_1, .int .i64 x135004_1]) ?_ 2 _ rfl; (with_reducible repeat (first | refine blk_drewN ?_ _ | refine blk_drew ?_ | refine blk_alloc ?_ _)); refine blk_put (cs := #[.int .i64 0, .bool x135001_1, .bool x135002_1, .bool x135003_1, .int .i64 x135004_1]) ?_ 1 _ rfl; (with_reducible repeat (first | refine blk_drewN ?_ _ | refine blk_drew ?_ | refine blk_alloc ?_ _)); refine blk_put (cs := #[.int .i64 x135000_1, .bool x135001_1, .bool x135002_1, .bool x135003_1, .int .i64 x135004_1]) ?_ 0 _ rfl; (with_reducible repeat (first | refine blk_drewN ?_ _ | refine blk_drew ?_ | refine blk_alloc ?_ _)); exact BK134.out) Tryd.underlying58 rfl (by kernel_rfl)) rfl ?_
                        exact ⟨by first | rfl | (simp [errW_none, errW_some] <;> rfl) | (simp [*, errW_none, errW_some] <;> rfl), by repeat (first | (with_reducible first | exact HB.out | apply below_alloc | apply pw_below_drewN | apply below_drew1 | refine below_set ?_ GE134.out | refine below_set ?_ GE135.out) | exact HB.out)⟩
                      · rw [if_neg c34] at H
                        have c34b0 : decide (t145 < 0) = false := decide_eq_false c34
                        clear c34
                        by_cases c37 : t145 > 4194304
                        · rw [if_pos c37] at H
                          have c37b0 : decide (4194304 < t145) = true := decide_eq_true c37
                          clear c37
                          simp only [Option.some.injEq, Prod.mk.injEq] at H
                          obtain ⟨rfl, rfl, rfl, rfl, rfl, rfl⟩ := H
                          go_wp2_with (first | ((with_reducible refine gate_callee (f := 93) rfl ?_); refine goesL_ (some 48) rfl rfl Tryd.func93 (by kernel_rfl) rfl #[.string t138, .int .i64 7] rfl (by (try simp only [List.map_toArray, List.map_cons, List.map_nil]); first | done | rfl | (simp only [List.length_drop, List.length_take]; rfl)) ?_; (with_reducible refine (montageref31_number.calls kj29 t138 7 t145 _ A33.out).mono ?_); rintro e w' ⟨rfl, ⟨nd, rfl⟩⟩; refine ⟨_, rfl, ?_⟩; (try (rw [drewN_self wc]; generalize hq_ : World.drewN wc _ = wc; have n0_ : Aside0 (Kd.R Kd.string 9 wc w.heap.size (fun _ => True) u5 x5_1) := ⟨by rw [← hq_]; exact (by (with_reducible repeat (first | apply Kd.R_alloc | apply Kd.R_drewN | apply Kd.R_drew)); exact HO_5.out)⟩; have n1_ : Aside0 (wc.heap[gb134]? = some (.cells #[.int .i64 x135000_1, .bool x135001_1, .bool x135002_1, .bool x135003_1, .int .i64 x135004_1] 58 (0, 0))) := ⟨by rw [← hq_]; exact (by (with_reducible repeat (first | refine blk_drewN ?_ _ | refine blk_drew ?_ | refine blk_alloc ?_ _)); exact BK134.out)⟩; have n2_ : Aside0 (wc.heap[gb135]? = some (.cells #[.int .i64 x136000_1, .bool x136001_1, .bool x136002_1, .bool x136003_1, .int .i64 x136004_1] 58 (0, 0))) := ⟨by rw [← hq_]; exact (by (with_reducible repeat (first | refine blk_drewN ?_ _ | refine blk_drew ?_ | refine blk_alloc ?_ _)); exact BK135.out)⟩; have n3_ : Aside0 (Below w.heap.size w wc) := ⟨by rw [← hq_]; exact (by repeat (first | (with_reducible first | exact HB.out | apply below_alloc | apply pw_below_drewN | apply below_drew1 | refine below_set ?_ GE134.out | refine below_set ?_ GE135.out) | exact HB.out))⟩; clear HO_5 BK134 BK135 HB hq_; have HO_5 := n0_; have BK134 := n1_; have BK135 := n2_; have HB := n3_; clear n0_ n1_ n2_ n3_)); have hnb38 := NB134_135.out; have hnc38 := NB135_134.out; have hcz39_0 : wc.cell? ⟨gb134, 0, none⟩ = some (.int .i64 x135000_1) := (blk_cell BK134.out 0).trans rfl; have hcz39_1 : wc.cell? ⟨gb134, 1, none⟩ = some (.bool x135001_1) := (blk_cell BK134.out 1).trans rfl; have hcz39_2 : wc.cell? ⟨gb134, 2, none⟩ = some (.bool x135002_1) := (blk_cell BK134.out 2).trans rfl; have hcz39_3 : wc.cell? ⟨gb134, 3, none⟩ = some (.bool x135003_1) := (blk_cell BK134.out 3).trans rfl; have hcz39_4 : wc.cell? ⟨gb134, 4, none⟩ = some (.int .i64 x135004_1) := (blk_cell BK134.out 4).trans rfl; have hfz39_0 := blk_frozen BK134.out 0; have hfz39_1 := blk_frozen BK134.out 1; have hfz39_2 := blk_frozen BK134.out 2; have hfz39_3 := blk_frozen BK134.out 3; have hfz39_4 := blk_frozen BK134.out 4))
                          refine bodyPost_ret (results_ct rfl _ _ gb134 58 #[.int .i64 0, .bool false, .bool false, .bool false, .int .i64 0] (0, 0) _ rfl (by (with_reducible repeat (first | refine blk_drewN ?_ _ | refine blk_drew ?_ | refine blk_alloc ?_ _)); refine blk_put (cs := #[.int .i64 0, .bool false, .bool false, .bool false, .int .i64 x135004_1]) ?_ 4 _ rfl; (with_reducible repeat (first | refine blk_drewN ?_ _ | refine blk_drew ?_ | refine blk_alloc ?_ _)); refine blk_put (cs := #[.int .i64 0, .bool false, .bool false, .bool x135003_1, .int .i64 x135004_1]) ?_ 3 _ rfl; (with_reducible repeat (first | refine blk_drewN ?_ _ | refine blk_drew ?_ | refine blk_alloc ?_ _)); refine blk_put (cs := #[.int .i64 0, .bool false, .bool x135002_1, .bool x135003_1, .int .i64 x135004_1]) ?_ 2 _ rfl; (with_reducible repeat (first | refine blk_drewN ?_ _ | refine blk_drew ?_ | refine blk_alloc ?_ _)); refine blk_put (cs := #[.int .i64 0, .bool x135001_1, .bool x135002_1, .bool x135003_1, .int .i64 x135004_1]) ?_ 1 _ rfl; (with_reducible repeat (first | refine blk_drewN ?_ _ | refine blk_drew ?_ | refine blk_alloc ?_ _)); refine blk_put (cs := #[.int .i64 x135000_1, .bool x135001_1, .bool x135002_1, .bool x135003_1, .int .i64 x135004_1]) ?_ 0 _ rfl; (with_reducible repeat (first | refine blk_drewN ?_ _ | refine blk_drew ?_ | refine blk_alloc ?_ _)); exact BK134.out) Tryd.underlying58 rfl (by kernel_rfl)) rfl ?_
                          exact ⟨by first | rfl | (simp [errW_none, errW_some] <;> rfl) | (simp [*, errW_none, errW_some] <;> rfl), by repeat (first | (with_reducible first | exact HB.out | apply below_alloc | apply pw_below_drewN | apply below_drew1 | refine below_set ?_ GE134.out | refine below_set ?_ GE135.out) | exact HB.out)⟩
                        · rw [if_neg c37] at H
                          have c37b0 : decide (4194304 < t145) = false := decide_eq_false c37
                          clear c37
                          replace H := Option.bind_eq_some_iff.mp H
                          obtain ⟨t146, A400, H⟩ := H
                          replace H : (if t146 = true then (some (0, false, false, false, 0, 6)) else (if x5_1.length < 8796093022208 then (montageref31_Parse.l0 kj29 l0 (x5_1 ++ [t137]) (wrap64 (x6_1 + 1)) x136000_1 x136001_1 x136002_1 x136003_1 t145) else (none))) = some (r1, r2, r3, r4, r5, r6) := H
                          have A40 := Aside0.mk A400
                          clear A400
                          by_cases c41 : t146 = true
                          · subst c41
                            have H1 : (some (0, false, false, false, 0, 6)) = some (r1, r2, r3, r4, r5, r6) := by rw [if_pos rfl] at H; exact H
                            clear H
                            have H := H1
                            clear H1
                            simp only [Option.some.injEq, Prod.mk.injEq] at H
                            obtain ⟨rfl, rfl, rfl, rfl, rfl, rfl⟩ := H
                            go_wp2_with (first | ((with_reducible refine gate_callee (f := 93) rfl ?_); refine goesL_ (some 48) rfl rfl Tryd.func93 (by kernel_rfl) rfl #[.string t138, .int .i64 7] rfl (by (try simp only [List.map_toArray, List.map_cons, List.map_nil]); first | done | rfl | (simp only [List.length_drop, List.length_take]; rfl)) ?_; (with_reducible refine (montageref31_number.calls kj29 t138 7 t145 _ A33.out).mono ?_); rintro e w' ⟨rfl, ⟨nd, rfl⟩⟩; refine ⟨_, rfl, ?_⟩; (try (rw [drewN_self wc]; generalize hq_ : World.drewN wc _ = wc; have n0_ : Aside0 (Kd.R Kd.string 9 wc w.heap.size (fun _ => True) u5 x5_1) := ⟨by rw [← hq_]; exact (by (with_reducible repeat (first | apply Kd.R_alloc | apply Kd.R_drewN | apply Kd.R_drew)); exact HO_5.out)⟩; have n1_ : Aside0 (wc.heap[gb134]? = some (.cells #[.int .i64 x135000_1, .bool x135001_1, .bool x135002_1, .bool x135003_1, .int .i64 x135004_1] 58 (0, 0))) := ⟨by rw [← hq_]; exact (by (with_reducible repeat (first | refine blk_drewN ?_ _ | refine blk_drew ?_ | refine blk_alloc ?_ _)); exact BK134.out)⟩; have n2_ : Aside0 (wc.heap[gb135]? = some (.cells #[.int .i64 x136000_1, .bool x136001_1, .bool x136002_1, .bool x136003_1, .int .i64 x136004_1] 58 (0, 0))) := ⟨by rw [← hq_]; exact (by (with_reducible repeat (first | refine blk_drewN ?_ _ | refine blk_drew ?_ | refine blk_alloc ?_ _)); exact BK135.out)⟩; have n3_ : Aside0 (Below w.heap.size w wc) := ⟨by rw [← hq_]; exact (by repeat (first | (with_reducible first | exact HB.out | apply below_alloc | apply pw_below_drewN | apply below_drew1 | refine below_set ?_ GE134.out | refine below_set ?_ GE135.out) | exact HB.out))⟩; clear HO_5 BK134 BK135 HB hq_; have HO_5 := n0_; have BK134 := n1_; have BK135 := n2_; have HB := n3_; clear n0_ n1_ n2_ n3_)); have hnb42 := NB135_134.out; have hnc42 := NB134_135.out; have hcz43_0 : wc.cell? ⟨gb135, 0, none⟩ = some (.int .i64 x136000_1) := (blk_cell BK135.out 0).trans rfl; have hcz43_1 : wc.cell? ⟨gb135, 1, none⟩ = some (.bool x136001_1) := (blk_cell BK135.out 1).trans rfl; have hcz43_2 : wc.cell? ⟨gb135, 2, none⟩ = some (.bool x136002_1) := (blk_cell BK135.out 2).trans rfl; have hcz43_3 : wc.cell? ⟨gb135, 3, none⟩ = some (.bool x136003_1) := (blk_cell BK135.out 3).trans rfl; have hcz43_4 : wc.cell? ⟨gb135, 4, none⟩ = some (.int .i64 x136004_1) := (blk_cell BK135.out 4).trans rfl; have hfz43_0 := blk_frozen BK135.out 0; have hfz43_1 := blk_frozen BK135.out 1; have hfz43_2 := blk_frozen BK135.out 2; have hfz43_3 := blk_frozen BK135.out 3; have hfz43_4 := blk_frozen BK135.out 4; obtain ⟨Ao44, co44, eo44⟩ := Kd.R_slice HO_5.out; subst eo44) | ((with_reducible refine gate_callee (f := 94) rfl ?_); refine goesL_ (some 78) rfl rfl Tryd.func94 (by kernel_rfl) rfl #[.slice Ao44 x5_1.length co44, .string t137] rfl (by (try simp only [List.map_toArray, List.map_cons, List.map_nil]); first | done | rfl | (simp only [List.length_drop, List.length_take]; rfl)) ?_; (with_reducible refine (montageref31_has.calls kj29 _ _ x5_1 t137 true _ ?side1 ?side2 A40.out).mono ?_); (case side1 => refine (Kd.R_reads' (e := 9) (base := w.heap.size) (ok := fun k_ => True) (n := x5_1.length) (c := co44) ?_).2.2; exact (by (with_reducible repeat (first | apply Kd.R_alloc | apply Kd.R_drewN | apply Kd.R_drew)); exact (Kd.R_mono (Kd.R_far (p := ⟨gb135, 4, none⟩) (Kd.R_types HO_5.out BK135.out (by decide)) (fun _ hk => hk.2) (.int .i64 t145)) (fun _ h_ => h_.1)))); (case side2 => exact (Kd.R_reads' HO_5.out).2.1); rintro e w' ⟨rfl, ⟨nd, rfl⟩⟩; refine ⟨_, rfl, ?_⟩; have hcz45_0 : wc.cell? ⟨gb134, 0, none⟩ = some (.int .i64 x135000_1) := (blk_cell BK134.out 0).trans rfl; have hcz45_1 : wc.cell? ⟨gb134, 1, none⟩ = some (.bool x135001_1) := (blk_cell BK134.out 1).trans rfl; have hcz45_2 : wc.cell? ⟨gb134, 2, none⟩ = some (.bool x135002_1) := (blk_cell BK134.out 2).trans rfl; have hcz45_3 : wc.cell? ⟨gb134, 3, none⟩ = some (.bool x135003_1) := (blk_cell BK134.out 3).trans rfl; have hcz45_4 : wc.cell? ⟨gb134, 4, none⟩ = some (.int .i64 x135004_1) := (blk_cell BK134.out 4).trans rfl; have hfz45_0 := blk_frozen BK134.out 0; have hfz45_1 := blk_frozen BK134.out 1; have hfz45_2 := blk_frozen BK134.out 2; have hfz45_3 := blk_frozen BK134.out 3; have hfz45_4 := blk_frozen BK134.out 4))
                            refine bodyPost_ret (results_ct rfl _ _ gb134 58 #[.int .i64 0, .bool false, .bool false, .bool false, .int .i64 0] (0, 0) _ rfl (by (with_reducible repeat (first | refine blk_drewN ?_ _ | refine blk_drew ?_ | refine blk_alloc ?_ _)); refine blk_put (cs := #[.int .i64 0, .bool false, .bool false, .bool false, .int .i64 x135004_1]) ?_ 4 _ rfl; (with_reducible repeat (first | refine blk_drewN ?_ _ | refine blk_drew ?_ | refine blk_alloc ?_ _)); refine blk_put (cs := #[.int .i64 0, .bool false, .bool false, .bool x135003_1, .int .i64 x135004_1]) ?_ 3 _ rfl; (with_reducible repeat (first | refine blk_drewN ?_ _ | refine blk_drew ?_ | refine blk_alloc ?_ _)); refine blk_put (cs := #[.int .i64 0, .bool false, .bool x135002_1, .bool x135003_1, .int .i64 x135004_1]) ?_ 2 _ rfl; (with_reducible repeat (first | refine blk_drewN ?_ _ | refine blk_drew ?_ | refine blk_alloc ?_ _)); refine blk_put (cs := #[.int .i64 0, .bool x135001_1, .bool x135002_1, .bool x135003_1, .int .i64 x135004_1]) ?_ 1 _ rfl; (with_reducible repeat (first | refine blk_drewN ?_ _ | refine blk_drew ?_ | refine blk_alloc ?_ _)); refine blk_put (cs := #[.int .i64 x135000_1, .bool x135001_1, .bool x135002_1, .bool x135003_1, .int .i64 x135004_1]) ?_ 0 _ rfl; (with_reducible repeat (first | refine blk_drewN ?_ _ | refine blk_drew ?_ | refine blk_alloc ?_ _)); refine blk_far ?_ NB134_135.out _; (with_reducible repeat (first | refine blk_drewN ?_ _ | refine blk_drew ?_ | refine blk_alloc ?_ _)); exact BK134.out) Tryd.underlying58 rfl (by kernel_rfl)) rfl ?_
                            exact ⟨by first | rfl | (simp [errW_none, errW_some] <;> rfl) | (simp [*, errW_none, errW_some] <;> rfl), by repeat (first | (with_reducible first | exact HB.out | apply below_alloc | apply pw_below_drewN | apply below_drew1 | refine below_set ?_ GE134.out | refine below_set ?_ GE135.out) | exact HB.out)⟩
                          · replace c41 := Bool.eq_false_iff.mpr c41
                            subst c41
                            have H1 : (if x5_1.length < 8796093022208 then (montageref31_Parse.l0 kj29 l0 (x5_1 ++ [t137]) (wrap64 (x6_1 + 1)) x136000_1 x136001_1 x136002_1 x136003_1 t145) else (none)) = some (r1, r2, r3, r4, r5, r6) := by rw [if_neg (show ¬ (false = true) by decide)] at H; exact H
                            clear H
                            have H := H1
                            clear H1
                            by_cases c46 : x5_1.length < 8796093022208
                            · rw [if_pos c46] at H
                              have LMc46 := Aside0.mk c46
                              clear c46
                              obtain ⟨y147, hy147⟩ : ∃ y_ : List ByteArray, y_ = (x5_1 ++ [t137]) := ⟨_, rfl⟩
                              replace H : (montageref31_Parse.l0 kj29 l0 y147 (wrap64 (x6_1 + 1)) x136000_1 x136001_1 x136002_1 x136003_1 t145) = some (r1, r2, r3, r4, r5, r6) := by first | (rw [hy147]; with_reducible exact H) | (have H2_ := (Option.bind_some _ _).symm.trans H; rw [hy147]; with_reducible exact H2_) | (have H2_ := (Option.bind_some _ _).symm.trans H; with_reducible exact H2_) | with_reducible exact H | (rw [hy147]; exact H) | exact H
                              have Ny147 := Aside0.mk hy147
                              clear hy147
                              have H' := Aside0.mk H
                              clear H
                              go_wp2_with (first | ((with_reducible refine gate_callee (f := 93) rfl ?_); refine goesL_ (some 48) rfl rfl Tryd.func93 (by kernel_rfl) rfl #[.string t138, .int .i64 7] rfl (by (try simp only [List.map_toArray, List.map_cons, List.map_nil]); first | done | rfl | (simp only [List.length_drop, List.length_take]; rfl)) ?_; (with_reducible refine (montageref31_number.calls kj29 t138 7 t145 _ A33.out).mono ?_); rintro e w' ⟨rfl, ⟨nd, rfl⟩⟩; refine ⟨_, rfl, ?_⟩; (try (rw [drewN_self wc]; generalize hq_ : World.drewN wc _ = wc; have n0_ : Aside0 (Kd.R Kd.string 9 wc w.heap.size (fun _ => True) u5 x5_1) := ⟨by rw [← hq_]; exact (by (with_reducible repeat (first | apply Kd.R_alloc | apply Kd.R_drewN | apply Kd.R_drew)); exact HO_5.out)⟩; have n1_ : Aside0 (wc.heap[gb134]? = some (.cells #[.int .i64 x135000_1, .bool x135001_1, .bool x135002_1, .bool x135003_1, .int .i64 x135004_1] 58 (0, 0))) := ⟨by rw [← hq_]; exact (by (with_reducible repeat (first | refine blk_drewN ?_ _ | refine blk_drew ?_ | refine blk_alloc ?_ _)); exact BK134.out)⟩; have n2_ : Aside0 (wc.heap[gb135]? = some (.cells #[.int .i64 x136000_1, .bool x136001_1, .bool x136002_1, .bool x136003_1, .int .i64 x136004_1] 58 (0, 0))) := ⟨by rw [← hq_]; exact (by (with_reducible repeat (first | refine blk_drewN ?_ _ | refine blk_drew ?_ | refine blk_alloc ?_ _)); exact BK135.out)⟩; have n3_ : Aside0 (Below w.heap.size w wc) := ⟨by rw [← hq_]; exact (by repeat (first | (with_reducible first | exact HB.out | apply below_alloc | apply pw_below_drewN | apply below_drew1 | refine below_set ?_ GE134.out | refine below_set ?_ GE135.out) | exact HB.out))⟩; clear HO_5 BK134 BK135 HB hq_; have HO_5 := n0_; have BK134 := n1_; have BK135 := n2_; have HB := n3_; clear n0_ n1_ n2_ n3_)); have hnb47 := NB135_134.out; have hnc47 := NB134_135.out; have hcz48_0 : wc.cell? ⟨gb135, 0, none⟩ = some (.int .i64 x136000_1) := (blk_cell BK135.out 0).trans rfl; have hcz48_1 : wc.cell? ⟨gb135, 1, none⟩ = some (.bool x136001_1) := (blk_cell BK135.out 1).trans rfl; have hcz48_2 : wc.cell? ⟨gb135, 2, none⟩ = some (.bool x136002_1) := (blk_cell BK135.out 2).trans rfl; have hcz48_3 : wc.cell? ⟨gb135, 3, none⟩ = some (.bool x136003_1) := (blk_cell BK135.out 3).trans rfl; have hcz48_4 : wc.cell? ⟨gb135, 4, none⟩ = some (.int .i64 x136004_1) := (blk_cell BK135.out 4).trans rfl; have hfz48_0 := blk_frozen BK135.out 0; have hfz48_1 := blk_frozen BK135.out 1; have hfz48_2 := blk_frozen BK135.out 2; have hfz48_3 := blk_frozen BK135.out 3; have hfz48_4 := blk_frozen BK135.out 4; obtain ⟨Ao49, co49, eo49⟩ := Kd.R_slice HO_5.out; subst eo49) | ((with_reducible refine gate_callee (f := 94) rfl ?_); refine goesL_ (some 78) rfl rfl Tryd.func94 (by kernel_rfl) rfl #[.slice Ao49 x5_1.length co49, .string t137] rfl (by (try simp only [List.map_toArray, List.map_cons, List.map_nil]); first | done | rfl | (simp only [List.length_drop, List.length_take]; rfl)) ?_; (with_reducible refine (montageref31_has.calls kj29 _ _ x5_1 t137 false _ ?side1 ?side2 A40.out).mono ?_); (case side1 => refine (Kd.R_reads' (e := 9) (base := w.heap.size) (ok := fun k_ => True) (n := x5_1.length) (c := co49) ?_).2.2; exact (by (with_reducible repeat (first | apply Kd.R_alloc | apply Kd.R_drewN | apply Kd.R_drew)); exact (Kd.R_mono (Kd.R_far (p := ⟨gb135, 4, none⟩) (Kd.R_types HO_5.out BK135.out (by decide)) (fun _ hk => hk.2) (.int .i64 t145)) (fun _ h_ => h_.1)))); (case side2 => exact (Kd.R_reads' HO_5.out).2.1); rintro e w' ⟨rfl, ⟨nd, rfl⟩⟩; refine ⟨_, rfl, ?_⟩) | ((with_reducible refine gate_builtin (b := .append) (xs := #[.tmp 80, .tmp 82]) rfl ?_); at_builtin; refine Kd.R_append Kd.string (w0 := w) w.heap.size rfl (.tmp 80) (.tmp 82) 56 9 (.string ⟨#[]⟩) 16 rfl Tryd.underlying56 info9 rfl (by decide) (by omega) (.slice Ao49 x5_1.length co49) x5_1 t137 [.string t137] (fun _ => True) (fun _ => False) rfl (by first | (go_simp; done) | (go_simp; rfl)) ?aP (fun _ hk => hk.elim) ?aF ?aO ?aB ?aS ?aL ?_; (case aP => exact rfl); (case aB => exact (by repeat (first | (with_reducible first | exact HB.out | apply below_alloc | apply pw_below_drewN | apply below_drew1 | refine below_set ?_ GE134.out | refine below_set ?_ GE135.out) | exact HB.out))); (case aF => exact (fun _ _ => trivial)); (case aO => exact (by (with_reducible repeat (first | apply Kd.R_alloc | apply Kd.R_drewN | apply Kd.R_drew)); exact Kd.R_mono (Kd.R_far (p := ⟨gb135, 4, none⟩) (Kd.R_types HO_5.out BK135.out (by decide)) (fun _ hk => hk.2) (.int .i64 t145)) (fun _ hk => trivial))); (case aS => exact (below_size (by repeat (first | (with_reducible first | exact HB.out | apply below_alloc | apply pw_below_drewN | apply below_drew1 | refine below_set ?_ GE134.out | refine below_set ?_ GE135.out) | exact HB.out)))); (case aL => have := LMc46.out; omega); intro v148 w50 ho hb hg hat; rw [← Ny147.out] at ho; have n0_ := Aside0.mk (blk_grown (g := gb134) (o := .cells #[.int .i64 x135000_1, .bool x135001_1, .bool x135002_1, .bool x135003_1, .int .i64 x135004_1] 58 (0, 0)) (by (with_reducible repeat (first | refine blk_drewN ?_ _ | refine blk_drew ?_ | refine blk_alloc ?_ _)); refine blk_far ?_ NB134_135.out _; (with_reducible repeat (first | refine blk_drewN ?_ _ | refine blk_drew ?_ | refine blk_alloc ?_ _)); exact BK134.out) hg (Kd.R_ne HO_5.out BK134.out (by decide))); have n1_ := Aside0.mk (blk_grown (g := gb135) (o := .cells #[.int .i64 x136000_1, .bool x136001_1, .bool x136002_1, .bool x136003_1, .int .i64 t145] 58 (0, 0)) (by (with_reducible repeat (first | refine blk_drewN ?_ _ | refine blk_drew ?_ | refine blk_alloc ?_ _)); refine blk_put (cs := #[.int .i64 x136000_1, .bool x136001_1, .bool x136002_1, .bool x136003_1, .int .i64 x136004_1]) ?_ 4 _ rfl; (with_reducible repeat (first | refine blk_drewN ?_ _ | refine blk_drew ?_ | refine blk_alloc ?_ _)); exact BK135.out) hg (Kd.R_ne HO_5.out BK135.out (by decide))); have n2_ := Aside0.mk (hb); have n3_ := Aside0.mk (ho); clear BK134; clear BK135; clear HB; clear HO_5; have BK134 := n0_; have BK135 := n1_; have HB := n2_; have HO149 := n3_; clear n0_ n1_ n2_ n3_; clear ho hb hg hat))
                              go_roundg kj29
                              case measure => have := HK1.out; have := HJ8.out; have := HJ29.out; omega
                              case rel => exact ⟨(y147), (wrap64 (x6_1 + 1)), (x135000_1), (x135001_1), (x135002_1), (x135003_1), (x135004_1), (x136000_1), (x136001_1), (x136002_1), (x136003_1), (t145), (by first | rfl | (simp; done) | (simp [*]; done)), H', ⟨by have := HK1.out; have := HJ8.out; have := HJ29.out; omega⟩, ⟨by (with_reducible repeat (first | apply Kd.R_alloc | apply Kd.R_drewN | apply Kd.R_drew)); exact HO149.out⟩, ⟨by (with_reducible repeat (first | refine blk_drewN ?_ _ | refine blk_drew ?_ | refine blk_alloc ?_ _)); exact BK134.out⟩, ⟨by (with_reducible repeat (first | refine blk_drewN ?_ _ | refine blk_drew ?_ | refine blk_alloc ?_ _)); exact BK135.out⟩, ⟨by repeat (first | (with_reducible first | exact HB.out | apply below_alloc | apply pw_below_drewN | apply below_drew1 | refine below_set ?_ GE134.out | refine below_set ?_ GE135.out) | exact HB.out)⟩⟩
                            · rw [if_neg c46] at H
                              exact absurd H (by simp)
                    · replace c32 := Bool.eq_false_iff.mpr c32
                      subst c32
                      have H1 : (if 0 ≤ x6_1 then (if x6_1 < (l0.length : Int) then (if (rdOf ByteArray.empty l0 x6_1).toList = ([114, 101, 117, 115, 101] : List UInt8) then ((montageref31_has.f kj29 x5_1 t137).bind fun t151 => (if t151 = true then (some (0, false, false, false, 0, 6)) else (if x5_1.length < 8796093022208 then (montageref31_Parse.l0 kj29 l0 (x5_1 ++ [t137]) (wrap64 (x6_1 + 1)) x136000_1 true x136002_1 x136003_1 x136004_1) else (none)))) else (if (rdOf ByteArray.empty l0 x6_1).toList = ([115, 104, 97, 114, 101] : List UInt8) then ((montageref31_has.f kj29 x5_1 t137).bind fun t156 => (if t156 = true then (some (0, false, false, false, 0, 6)) else (if x5_1.length < 8796093022208 then (montageref31_Parse.l0 kj29 l0 (x5_1 ++ [t137]) (wrap64 (x6_1 + 1)) x136000_1 x136001_1 true x136003_1 x136004_1) else (none)))) else (if (rdOf ByteArray.empty l0 x6_1).toList = ([119, 105, 100, 101] : List UInt8) then ((montageref31_has.f kj29 x5_1 t137).bind fun t161 => (if t161 = true then (some (0, false, false, false, 0, 6)) else (if x5_1.length < 8796093022208 then (montageref31_Parse.l0 kj29 l0 (x5_1 ++ [t137]) (wrap64 (x6_1 + 1)) x136000_1 x136001_1 x136002_1 true x136004_1) else (none)))) else (some (0, false, false, false, 0, 2))))) else (none)) else (none)) = some (r1, r2, r3, r4, r5, r6) := by rw [if_neg (show ¬ (false = true) by decide)] at H; exact H
                      clear H
                      have H := H1
                      clear H1
                      by_cases c51 : 0 ≤ x6_1
                      · rw [if_pos c51] at H
                        have c51b0 : decide (0 ≤ x6_1) = true := decide_eq_true c51
                        clear c51
                        by_cases c52 : x6_1 < (l0.length : Int)
                        · rw [if_pos c52] at H
                          have c52b0 : decide (x6_1 < (l0.length : Int)) = true := decide_eq_true c52
                          clear c52
                          by_cases c53 : (rdOf ByteArray.empty l0 x6_1).toList = ([114, 101, 117, 115, 101] : List UInt8)
                          · rw [if_pos c53] at H
                            have c53b0 : ((rdOf ByteArray.empty l0 x6_1).toList == ([114, 101, 117, 115, 101] : List UInt8)) = true := beq_iff_eq.mpr c53
                            have c53b1 : ((rdOf ByteArray.empty l0 x6_1).toList != ([114, 101, 117, 115, 101] : List UInt8)) = false := bne_eq_false_iff_eq.mpr c53
                            clear c53
                            replace H := Option.bind_eq_some_iff.mp H
                            obtain ⟨t151, A540, H⟩ := H
                            replace H : (if t151 = true then (some (0, false, false, false, 0, 6)) else (if x5_1.length < 8796093022208 then (montageref31_Parse.l0 kj29 l0 (x5_1 ++ [t137]) (wrap64 (x6_1 + 1)) x136000_1 true x136002_1 x136003_1 x136004_1) else (none))) = some (r1, r2, r3, r4, r5, r6) := H
                            have A54 := Aside0.mk A540
                            clear A540
                            by_cases c55 : t151 = true
                            · subst c55
                              have H1 : (some (0, false, false, false, 0, 6)) = some (r1, r2, r3, r4, r5, r6) := by rw [if_pos rfl] at H; exact H
                              clear H
                              have H := H1
                              clear H1
                              simp only [Option.some.injEq, Prod.mk.injEq] at H
                              obtain ⟨rfl, rfl, rfl, rfl, rfl, rfl⟩ := H
                              have p150 : 0 ≤ (x6_1 : Int) := of_decide_eq_true (by first | (with_reducible assumption) | assumption)
                              have q150 : x6_1 < (l0.length : Int) := of_decide_eq_true (by first | (with_reducible assumption) | assumption)
                              obtain ⟨ad150, e150, hx150_0⟩ := Kd.at_string HR0.out x6_1 p150 q150
                              obtain rfl : ad136 = ad150 := (by injection e150)
                              replace hx150_0 := (HB.out.cell (World.block_lt_of_cell? w _ hx150_0)).trans hx150_0
                              replace p150 := eq_true p150
                              replace q150 := eq_true q150
                              have hnb56 := NB135_134.out
                              have hnc56 := NB134_135.out
                              have hcz57_0 : wc.cell? ⟨gb135, 0, none⟩ = some (.int .i64 x136000_1) := (blk_cell BK135.out 0).trans rfl
                              have hcz57_1 : wc.cell? ⟨gb135, 1, none⟩ = some (.bool x136001_1) := (blk_cell BK135.out 1).trans rfl
                              have hcz57_2 : wc.cell? ⟨gb135, 2, none⟩ = some (.bool x136002_1) := (blk_cell BK135.out 2).trans rfl
                              have hcz57_3 : wc.cell? ⟨gb135, 3, none⟩ = some (.bool x136003_1) := (blk_cell BK135.out 3).trans rfl
                              have hcz57_4 : wc.cell? ⟨gb135, 4, none⟩ = some (.int .i64 x136004_1) := (blk_cell BK135.out 4).trans rfl
                              have hfz57_0 := blk_frozen BK135.out 0
                              have hfz57_1 := blk_frozen BK135.out 1
                              have hfz57_2 := blk_frozen BK135.out 2
                              have hfz57_3 := blk_frozen BK135.out 3
                              have hfz57_4 := blk_frozen BK135.out 4
                              obtain ⟨Ao58, co58, eo58⟩ := Kd.R_slice HO_5.out
                              subst eo58
                              go_wp2_with (first | ((with_reducible refine gate_callee (f := 94) rfl ?_); refine goesL_ (some 78) rfl rfl Tryd.func94 (by kernel_rfl) rfl #[.slice Ao58 x5_1.length co58, .string t137] rfl (by (try simp only [List.map_toArray, List.map_cons, List.map_nil]); first | done | rfl | (simp only [List.length_drop, List.length_take]; rfl)) ?_; (with_reducible refine (montageref31_has.calls kj29 _ _ x5_1 t137 true _ ?side1 ?side2 A54.out).mono ?_); (case side1 => refine (Kd.R_reads' (e := 9) (base := w.heap.size) (ok := fun k_ => True) (n := x5_1.length) (c := co58) ?_).2.2; exact (by (with_reducible repeat (first | apply Kd.R_alloc | apply Kd.R_drewN | apply Kd.R_drew)); exact (Kd.R_mono (Kd.R_far (p := ⟨gb135, 1, none⟩) (Kd.R_types HO_5.out BK135.out (by decide)) (fun _ hk => hk.2) (.bool true)) (fun _ h_ => h_.1)))); (case side2 => exact (Kd.R_reads' HO_5.out).2.1); rintro e w' ⟨rfl, ⟨nd, rfl⟩⟩; refine ⟨_, rfl, ?_⟩; have hcz59_0 : wc.cell? ⟨gb134, 0, none⟩ = some (.int .i64 x135000_1) := (blk_cell BK134.out 0).trans rfl; have hcz59_1 : wc.cell? ⟨gb134, 1, none⟩ = some (.bool x135001_1) := (blk_cell BK134.out 1).trans rfl; have hcz59_2 : wc.cell? ⟨gb134, 2, none⟩ = some (.bool x135002_1) := (blk_cell BK134.out 2).trans rfl; have hcz59_3 : wc.cell? ⟨gb134, 3, none⟩ = some (.bool x135003_1) := (blk_cell BK134.out 3).trans rfl; have hcz59_4 : wc.cell? ⟨gb134, 4, none⟩ = some (.int .i64 x135004_1) := (blk_cell BK134.out 4).trans rfl; have hfz59_0 := blk_frozen BK134.out 0; have hfz59_1 := blk_frozen BK134.out 1; have hfz59_2 := blk_frozen BK134.out 2; have hfz59_3 := blk_frozen BK134.out 3; have hfz59_4 := blk_frozen BK134.out 4))
                              refine bodyPost_ret (results_ct rfl _ _ gb134 58 #[.int .i64 0, .bool false, .bool false, .bool false, .int .i64 0] (0, 0) _ rfl (by (with_reducible repeat (first | refine blk_drewN ?_ _ | refine blk_drew ?_ | refine blk_alloc ?_ _)); refine blk_put (cs := #[.int .i64 0, .bool false, .bool false, .bool false, .int .i64 x135004_1]) ?_ 4 _ rfl; (with_reducible repeat (first | refine blk_drewN ?_ _ | refine blk_drew ?_ | refine blk_alloc ?_ _)); refine blk_put (cs := #[.int .i64 0, .bool false, .bool false, .bool x135003_1, .int .i64 x135004_1]) ?_ 3 _ rfl; (with_reducible repeat (first | refine blk_drewN ?_ _ | refine blk_drew ?_ | refine blk_alloc ?_ _)); refine blk_put (cs := #[.int .i64 0, .bool false, .bool x135002_1, .bool x135003_1, .int .i64 x135004_1]) ?_ 2 _ rfl; (with_reducible repeat (first | refine blk_drewN ?_ _ | refine blk_drew ?_ | refine blk_alloc ?_ _)); refine blk_put (cs := #[.int .i64 0, .bool x135001_1, .bool x135002_1, .bool x135003_1, .int .i64 x135004_1]) ?_ 1 _ rfl; (with_reducible repeat (first | refine blk_drewN ?_ _ | refine blk_drew ?_ | refine blk_alloc ?_ _)); refine blk_put (cs := #[.int .i64 x135000_1, .bool x135001_1, .bool x135002_1, .bool x135003_1, .int .i64 x135004_1]) ?_ 0 _ rfl; (with_reducible repeat (first | refine blk_drewN ?_ _ | refine blk_drew ?_ | refine blk_alloc ?_ _)); refine blk_far ?_ NB134_135.out _; (with_reducible repeat (first | refine blk_drewN ?_ _ | refine blk_drew ?_ | refine blk_alloc ?_ _)); exact BK134.out) Tryd.underlying58 rfl (by kernel_rfl)) rfl ?_
                              exact ⟨by first | rfl | (simp [errW_none, errW_some] <;> rfl) | (simp [*, errW_none, errW_some] <;> rfl), by repeat (first | (with_reducible first | exact HB.out | apply below_alloc | apply pw_below_drewN | apply below_drew1 | refine below_set ?_ GE134.out | refine below_set ?_ GE135.out) | exact HB.out)⟩
                            · replace c55 := Bool.eq_false_iff.mpr c55
                              subst c55
                              have H1 : (if x5_1.length < 8796093022208 then (montageref31_Parse.l0 kj29 l0 (x5_1 ++ [t137]) (wrap64 (x6_1 + 1)) x136000_1 true x136002_1 x136003_1 x136004_1) else (none)) = some (r1, r2, r3, r4, r5, r6) := by rw [if_neg (show ¬ (false = true) by decide)] at H; exact H
                              clear H
                              have H := H1
                              clear H1
                              by_cases c60 : x5_1.length < 8796093022208
                              · rw [if_pos c60] at H
                                have LMc60 := Aside0.mk c60
                                clear c60
                                obtain ⟨y152, hy152⟩ : ∃ y_ : List ByteArray, y_ = (x5_1 ++ [t137]) := ⟨_, rfl⟩
                                replace H : (montageref31_Parse.l0 kj29 l0 y152 (wrap64 (x6_1 + 1)) x136000_1 true x136002_1 x136003_1 x136004_1) = some (r1, r2, r3, r4, r5, r6) := by first | (rw [hy152]; with_reducible exact H) | (have H2_ := (Option.bind_some _ _).symm.trans H; rw [hy152]; with_reducible exact H2_) | (have H2_ := (Option.bind_some _ _).symm.trans H; with_reducible exact H2_) | with_reducible exact H | (rw [hy152]; exact H) | exact H
                                have Ny152 := Aside0.mk hy152
                                clear hy152
                                have H' := Aside0.mk H
                                clear H
                                have p150 : 0 ≤ (x6_1 : Int) := of_decide_eq_true (by first | (with_reducible assumption) | assumption)
                                have q150 : x6_1 < (l0.length : Int) := of_decide_eq_true (by first | (with_reducible assumption) | assumption)
                                obtain ⟨ad150, e150, hx150_0⟩ := Kd.at_string HR0.out x6_1 p150 q150
                                obtain rfl : ad136 = ad150 := (by injection e150)
                                replace hx150_0 := (HB.out.cell (World.block_lt_of_cell? w _ hx150_0)).trans hx150_0
                                replace p150 := eq_true p150
                                replace q150 := eq_true q150
                                have hnb61 := NB135_134.out
                                have hnc61 := NB134_135.out
                                have hcz62_0 : wc.cell? ⟨gb135, 0, none⟩ = some (.int .i64 x136000_1) := (blk_cell BK135.out 0).trans rfl
                                have hcz62_1 : wc.cell? ⟨gb135, 1, none⟩ = some (.bool x136001_1) := (blk_cell BK135.out 1).trans rfl
                                have hcz62_2 : wc.cell? ⟨gb135, 2, none⟩ = some (.bool x136002_1) := (blk_cell BK135.out 2).trans rfl
                                have hcz62_3 : wc.cell? ⟨gb135, 3, none⟩ = some (.bool x136003_1) := (blk_cell BK135.out 3).trans rfl
                                have hcz62_4 : wc.cell? ⟨gb135, 4, none⟩ = some (.int .i64 x136004_1) := (blk_cell BK135.out 4).trans rfl
                                have hfz62_0 := blk_frozen BK135.out 0
                                have hfz62_1 := blk_frozen BK135.out 1
                                have hfz62_2 := blk_frozen BK135.out 2
                                have hfz62_3 := blk_frozen BK135.out 3
                                have hfz62_4 := blk_frozen BK135.out 4
                                obtain ⟨Ao63, co63, eo63⟩ := Kd.R_slice HO_5.out
                                subst eo63
                                go_wp2_with (first | ((with_reducible refine gate_callee (f := 94) rfl ?_); refine goesL_ (some 78) rfl rfl Tryd.func94 (by kernel_rfl) rfl #[.slice Ao63 x5_1.length co63, .string t137] rfl (by (try simp only [List.map_toArray, List.map_cons, List.map_nil]); first | done | rfl | (simp only [List.length_drop, List.length_take]; rfl)) ?_; (with_reducible refine (montageref31_has.calls kj29 _ _ x5_1 t137 false _ ?side1 ?side2 A54.out).mono ?_); (case side1 => refine (Kd.R_reads' (e := 9) (base := w.heap.size) (ok := fun k_ => True) (n := x5_1.length) (c := co63) ?_).2.2; exact (by (with_reducible repeat (first | apply Kd.R_alloc | apply Kd.R_drewN | apply Kd.R_drew)); exact (Kd.R_mono (Kd.R_far (p := ⟨gb135, 1, none⟩) (Kd.R_types HO_5.out BK135.out (by decide)) (fun _ hk => hk.2) (.bool true)) (fun _ h_ => h_.1)))); (case side2 => exact (Kd.R_reads' HO_5.out).2.1); rintro e w' ⟨rfl, ⟨nd, rfl⟩⟩; refine ⟨_, rfl, ?_⟩) | ((with_reducible refine gate_builtin (b := .append) (xs := #[.tmp 80, .tmp 82]) rfl ?_); at_builtin; refine Kd.R_append Kd.string (w0 := w) w.heap.size rfl (.tmp 80) (.tmp 82) 56 9 (.string ⟨#[]⟩) 16 rfl Tryd.underlying56 info9 rfl (by decide) (by omega) (.slice Ao63 x5_1.length co63) x5_1 t137 [.string t137] (fun _ => True) (fun _ => False) rfl (by first | (go_simp; done) | (go_simp; rfl)) ?aP (fun _ hk => hk.elim) ?aF ?aO ?aB ?aS ?aL ?_; (case aP => exact rfl); (case aB => exact (by repeat (first | (with_reducible first | exact HB.out | apply below_alloc | apply pw_below_drewN | apply below_drew1 | refine below_set ?_ GE134.out | refine below_set ?_ GE135.out) | exact HB.out))); (case aF => exact (fun _ _ => trivial)); (case aO => exact (by (with_reducible repeat (first | apply Kd.R_alloc | apply Kd.R_drewN | apply Kd.R_drew)); exact Kd.R_mono (Kd.R_far (p := ⟨gb135, 1, none⟩) (Kd.R_types HO_5.out BK135.out (by decide)) (fun _ hk => hk.2) (.bool true)) (fun _ hk => trivial))); (case aS => exact (below_size (by repeat (first | (with_reducible first | exact HB.out | apply below_alloc | apply pw_below_drewN | apply below_drew1 | refine below_set ?_ GE134.out | refine below_set ?_ GE135.out) | exact HB.out)))); (case aL => have := LMc60.out; omega); intro v153 w64 ho hb hg hat; rw [← Ny152.out] at ho; have n0_ := Aside0.mk (blk_grown (g := gb134) (o := .cells #[.int .i64 x135000_1, .bool x135001_1, .bool x135002_1, .bool x135003_1, .int .i64 x135004_1] 58 (0, 0)) (by (with_reducible repeat (first | refine blk_drewN ?_ _ | refine blk_drew ?_ | refine blk_alloc ?_ _)); refine blk_far ?_ NB134_135.out _; (with_reducible repeat (first | refine blk_drewN ?_ _ | refine blk_drew ?_ | refine blk_alloc ?_ _)); exact BK134.out) hg (Kd.R_ne HO_5.out BK134.out (by decide))); have n1_ := Aside0.mk (blk_grown (g := gb135) (o := .cells #[.int .i64 x136000_1, .bool true, .bool x136002_1, .bool x136003_1, .int .i64 x136004_1] 58 (0, 0)) (by (with_reducible repeat (first | refine blk_drewN ?_ _ | refine blk_drew ?_ | refine blk_alloc ?_ _)); refine blk_put (cs := #[.int .i64 x136000_1, .bool x136001_1, .bool x136002_1, .bool x136003_1, .int .i64 x136004_1]) ?_ 1 _ rfl; (with_reducible repeat (first | refine blk_drewN ?_ _ | refine blk_drew ?_ | refine blk_alloc ?_ _)); exact BK135.out) hg (Kd.R_ne HO_5.out BK135.out (by decide))); have n2_ := Aside0.mk (hb); have n3_ := Aside0.mk (ho); clear BK134; clear BK135; clear HB; clear HO_5; have BK134 := n0_; have BK135 := n1_; have HB := n2_; have HO154 := n3_; clear n0_ n1_ n2_ n3_; clear ho hb hg hat))
                                go_roundg kj29
                                case measure => have := HK1.out; have := HJ8.out; have := HJ29.out; omega
                                case rel => exact ⟨(y152), (wrap64 (x6_1 + 1)), (x135000_1), (x135001_1), (x135002_1), (x135003_1), (x135004_1), (x136000_1), (true), (x136002_1), (x136003_1), (x136004_1), (by first | rfl | (simp; done) | (simp [*]; done)), H', ⟨by have := HK1.out; have := HJ8.out; have := HJ29.out; omega⟩, ⟨by (with_reducible repeat (first | apply Kd.R_alloc | apply Kd.R_drewN | apply Kd.R_drew)); exact HO154.out⟩, ⟨by (with_reducible repeat (first | refine blk_drewN ?_ _ | refine blk_drew ?_ | refine blk_alloc ?_ _)); exact BK134.out⟩, ⟨by (with_reducible repeat (first | refine blk_drewN ?_ _ | refine blk_drew ?_ | refine blk_alloc ?_ _)); exact BK135.out⟩, ⟨by repeat (first | (with_reducible first | exact HB.out | apply below_alloc | apply pw_below_drewN | apply below_drew1 | refine below_set ?_ GE134.out | refine below_set ?_ GE135.out) | exact HB.out)⟩⟩
                              · rw [if_neg c60] at H
                                exact absurd H (by simp)
                          · rw [if_neg c53] at H
                            have c53b0 : ((rdOf ByteArray.empty l0 x6_1).toList == ([114, 101, 117, 115, 101] : List UInt8)) = false := beq_eq_false_iff_ne.mpr c53
                            have c53b1 : ((rdOf ByteArray.empty l0 x6_1).toList != ([114, 101, 117, 115, 101] : List UInt8)) = true := bne_iff_ne.mpr c53
                            by_cases c65 : (rdOf ByteArray.empty l0 x6_1).toList = ([115, 104, 97, 114, 101] : List UInt8)
                            · rw [if_pos c65] at H
                              have c65b0 : ((rdOf ByteArray.empty l0 x6_1).toList == ([115, 104, 97, 114, 101] : List UInt8)) = true := beq_iff_eq.mpr c65
                              have c65b1 : ((rdOf ByteArray.empty l0 x6_1).toList != ([115, 104, 97, 114, 101] : List UInt8)) = false := bne_eq_false_iff_eq.mpr c65
                              clear c65
                              replace H := Option.bind_eq_some_iff.mp H
                              obtain ⟨t156, A660, H⟩ := H
                              replace H : (if t156 = true then (some (0, false, false, false, 0, 6)) else (if x5_1.length < 8796093022208 then (montageref31_Parse.l0 kj29 l0 (x5_1 ++ [t137]) (wrap64 (x6_1 + 1)) x136000_1 x136001_1 true x136003_1 x136004_1) else (none))) = some (r1, r2, r3, r4, r5, r6) := H
                              have A66 := Aside0.mk A660
                              clear A660
                              by_cases c67 : t156 = true
                              · subst c67
                                have H1 : (some (0, false, false, false, 0, 6)) = some (r1, r2, r3, r4, r5, r6) := by rw [if_pos rfl] at H; exact H
                                clear H
                                have H := H1
                                clear H1
                                simp only [Option.some.injEq, Prod.mk.injEq] at H
                                obtain ⟨rfl, rfl, rfl, rfl, rfl, rfl⟩ := H
                                have p150 : 0 ≤ (x6_1 : Int) := of_decide_eq_true (by first | (with_reducible assumption) | assumption)
                                have q150 : x6_1 < (l0.length : Int) := of_decide_eq_true (by first | (with_reducible assumption) | assumption)
                                obtain ⟨ad150, e150, hx150_0⟩ := Kd.at_string HR0.out x6_1 p150 q150
                                obtain rfl : ad136 = ad150 := (by injection e150)
                                replace hx150_0 := (HB.out.cell (World.block_lt_of_cell? w _ hx150_0)).trans hx150_0
                                replace p150 := eq_true p150
                                replace q150 := eq_true q150
                                have p155 : 0 ≤ (x6_1 : Int) := of_decide_eq_true (by first | (with_reducible assumption) | assumption)
                                have q155 : x6_1 < (l0.length : Int) := of_decide_eq_true (by first | (with_reducible assumption) | assumption)
                                obtain ⟨ad155, e155, hx155_0⟩ := Kd.at_string HR0.out x6_1 p155 q155
                                obtain rfl : ad136 = ad155 := (by injection e155)
                                replace hx155_0 := (HB.out.cell (World.block_lt_of_cell? w _ hx155_0)).trans hx155_0
                                replace p155 := eq_true p155
                                replace q155 := eq_true q155
                                have hnb68 := NB135_134.out
                                have hnc68 := NB134_135.out
                                have hcz69_0 : wc.cell? ⟨gb135, 0, none⟩ = some (.int .i64 x136000_1) := (blk_cell BK135.out 0).trans rfl
                                have hcz69_1 : wc.cell? ⟨gb135, 1, none⟩ = some (.bool x136001_1) := (blk_cell BK135.out 1).trans rfl
                                have hcz69_2 : wc.cell? ⟨gb135, 2, none⟩ = some (.bool x136002_1) := (blk_cell BK135.out 2).trans rfl
                                have hcz69_3 : wc.cell? ⟨gb135, 3, none⟩ = some (.bool x136003_1) := (blk_cell BK135.out 3).trans rfl
                                have hcz69_4 : wc.cell? ⟨gb135, 4, none⟩ = some (.int .i64 x136004_1) := (blk_cell BK135.out 4).trans rfl
                                have hfz69_0 := blk_frozen BK135.out 0
                                have hfz69_1 := blk_frozen BK135.out 1
                                have hfz69_2 := blk_frozen BK135.out 2
                                have hfz69_3 := blk_frozen BK135.out 3
                                have hfz69_4 := blk_frozen BK135.out 4
                                obtain ⟨Ao70, co70, eo70⟩ := Kd.R_slice HO_5.out
                                subst eo70
                                go_wp2_with (first | ((with_reducible refine gate_callee (f := 94) rfl ?_); refine goesL_ (some 78) rfl rfl Tryd.func94 (by kernel_rfl) rfl #[.slice Ao70 x5_1.length co70, .string t137] rfl (by (try simp only [List.map_toArray, List.map_cons, List.map_nil]); first | done | rfl | (simp only [List.length_drop, List.length_take]; rfl)) ?_; (with_reducible refine (montageref31_has.calls kj29 _ _ x5_1 t137 true _ ?side1 ?side2 A66.out).mono ?_); (case side1 => refine (Kd.R_reads' (e := 9) (base := w.heap.size) (ok := fun k_ => True) (n := x5_1.length) (c := co70) ?_).2.2; exact (by (with_reducible repeat (first | apply Kd.R_alloc | apply Kd.R_drewN | apply Kd.R_drew)); exact (Kd.R_mono (Kd.R_far (p := ⟨gb135, 2, none⟩) (Kd.R_types HO_5.out BK135.out (by decide)) (fun _ hk => hk.2) (.bool true)) (fun _ h_ => h_.1)))); (case side2 => exact (Kd.R_reads' HO_5.out).2.1); rintro e w' ⟨rfl, ⟨nd, rfl⟩⟩; refine ⟨_, rfl, ?_⟩; have hcz71_0 : wc.cell? ⟨gb134, 0, none⟩ = some (.int .i64 x135000_1) := (blk_cell BK134.out 0).trans rfl; have hcz71_1 : wc.cell? ⟨gb134, 1, none⟩ = some (.bool x135001_1) := (blk_cell BK134.out 1).trans rfl; have hcz71_2 : wc.cell? ⟨gb134, 2, none⟩ = some (.bool x135002_1) := (blk_cell BK134.out 2).trans rfl; have hcz71_3 : wc.cell? ⟨gb134, 3, none⟩ = some (.bool x135003_1) := (blk_cell BK134.out 3).trans rfl; have hcz71_4 : wc.cell? ⟨gb134, 4, none⟩ = some (.int .i64 x135004_1) := (blk_cell BK134.out 4).trans rfl; have hfz71_0 := blk_frozen BK134.out 0; have hfz71_1 := blk_frozen BK134.out 1; have hfz71_2 := blk_frozen BK134.out 2; have hfz71_3 := blk_frozen BK134.out 3; have hfz71_4 := blk_frozen BK134.out 4))
                                refine bodyPost_ret (results_ct rfl _ _ gb134 58 #[.int .i64 0, .bool false, .bool false, .bool false, .int .i64 0] (0, 0) _ rfl (by (with_reducible repeat (first | refine blk_drewN ?_ _ | refine blk_drew ?_ | refine blk_alloc ?_ _)); refine blk_put (cs := #[.int .i64 0, .bool false, .bool false, .bool false, .int .i64 x135004_1]) ?_ 4 _ rfl; (with_reducible repeat (first | refine blk_drewN ?_ _ | refine blk_drew ?_ | refine blk_alloc ?_ _)); refine blk_put (cs := #[.int .i64 0, .bool false, .bool false, .bool x135003_1, .int .i64 x135004_1]) ?_ 3 _ rfl; (with_reducible repeat (first | refine blk_drewN ?_ _ | refine blk_drew ?_ | refine blk_alloc ?_ _)); refine blk_put (cs := #[.int .i64 0, .bool false, .bool x135002_1, .bool x135003_1, .int .i64 x135004_1]) ?_ 2 _ rfl; (with_reducible repeat (first | refine blk_drewN ?_ _ | refine blk_drew ?_ | refine blk_alloc ?_ _)); refine blk_put (cs := #[.int .i64 0, .bool x135001_1, .bool x135002_1, .bool x135003_1, .int .i64 x135004_1]) ?_ 1 _ rfl; (with_reducible repeat (first | refine blk_drewN ?_ _ | refine blk_drew ?_ | refine blk_alloc ?_ _)); refine blk_put (cs := #[.int .i64 x135000_1, .bool x135001_1, .bool x135002_1, .bool x135003_1, .int .i64 x135004_1]) ?_ 0 _ rfl; (with_reducible repeat (first | refine blk_drewN ?_ _ | refine blk_drew ?_ | refine blk_alloc ?_ _)); refine blk_far ?_ NB134_135.out _; (with_reducible repeat (first | refine blk_drewN ?_ _ | refine blk_drew ?_ | refine blk_alloc ?_ _)); exact BK134.out) Tryd.underlying58 rfl (by kernel_rfl)) rfl ?_
                                exact ⟨by first | rfl | (simp [errW_none, errW_some] <;> rfl) | (simp [*, errW_none, errW_some] <;> rfl), by repeat (first | (with_reducible first | exact HB.out | apply below_alloc | apply pw_below_drewN | apply below_drew1 | refine below_set ?_ GE134.out | refine below_set ?_ GE135.out) | exact HB.out)⟩
                              · replace c67 := Bool.eq_false_iff.mpr c67
                                subst c67
                                have H1 : (if x5_1.length < 8796093022208 then (montageref31_Parse.l0 kj29 l0 (x5_1 ++ [t137]) (wrap64 (x6_1 + 1)) x136000_1 x136001_1 true x136003_1 x136004_1) else (none)) = some (r1, r2, r3, r4, r5, r6) := by rw [if_neg (show ¬ (false = true) by decide)] at H; exact H
                                clear H
                                have H := H1
                                clear H1
                                by_cases c72 : x5_1.length < 8796093022208
                                · rw [if_pos c72] at H
                                  have LMc72 := Aside0.mk c72
                                  clear c72
                                  obtain ⟨y157, hy157⟩ : ∃ y_ : List ByteArray, y_ = (x5_1 ++ [t137]) := ⟨_, rfl⟩
                                  replace H : (montageref31_Parse.l0 kj29 l0 y157 (wrap64 (x6_1 + 1)) x136000_1 x136001_1 true x136003_1 x136004_1) = some (r1, r2, r3, r4, r5, r6) := by first | (rw [hy157]; with_reducible exact H) | (have H2_ := (Option.bind_some _ _).symm.trans H; rw [hy157]; with_reducible exact H2_) | (have H2_ := (Option.bind_some _ _).symm.trans H; with_reducible exact H2_) | with_reducible exact H | (rw [hy157]; exact H) | exact H
                                  have Ny157 := Aside0.mk hy157
                                  clear hy157
                                  have H' := Aside0.mk H
                                  clear H
                                  have p150 : 0 ≤ (x6_1 : Int) := of_decide_eq_true (by first | (with_reducible assumption) | assumption)
                                  have q150 : x6_1 < (l0.length : Int) := of_decide_eq_true (by first | (with_reducible assumption) | assumption)
                                  obtain ⟨ad150, e150, hx150_0⟩ := Kd.at_string HR0.out x6_1 p150 q150
                                  obtain rfl : ad136 = ad150 := (by injection e150)
                                  replace hx150_0 := (HB.out.cell (World.block_lt_of_cell? w _ hx150_0)).trans hx150_0
                                  replace p150 := eq_true p150
                                  replace q150 := eq_true q150
                                  have p155 : 0 ≤ (x6_1 : Int) := of_decide_eq_true (by first | (with_reducible assumption) | assumption)
                                  have q155 : x6_1 < (l0.length : Int) := of_decide_eq_true (by first | (with_reducible assumption) | assumption)
                                  obtain ⟨ad155, e155, hx155_0⟩ := Kd.at_string HR0.out x6_1 p155 q155
                                  obtain rfl : ad136 = ad155 := (by injection e155)
                                  replace hx155_0 := (HB.out.cell (World.block_lt_of_cell? w _ hx155_0)).trans hx155_0
                                  replace p155 := eq_true p155
                                  replace q155 := eq_true q155
                                  have hnb73 := NB135_134.out
                                  have hnc73 := NB134_135.out
                                  have hcz74_0 : wc.cell? ⟨gb135, 0, none⟩ = some (.int .i64 x136000_1) := (blk_cell BK135.out 0).trans rfl
                                  have hcz74_1 : wc.cell? ⟨gb135, 1, none⟩ = some (.bool x136001_1) := (blk_cell BK135.out 1).trans rfl
                                  have hcz74_2 : wc.cell? ⟨gb135, 2, none⟩ = some (.bool x136002_1) := (blk_cell BK135.out 2).trans rfl
                                  have hcz74_3 : wc.cell? ⟨gb135, 3, none⟩ = some (.bool x136003_1) := (blk_cell BK135.out 3).trans rfl
                                  have hcz74_4 : wc.cell? ⟨gb135, 4, none⟩ = some (.int .i64 x136004_1) := (blk_cell BK135.out 4).trans rfl
                                  have hfz74_0 := blk_frozen BK135.out 0
                                  have hfz74_1 := blk_frozen BK135.out 1
                                  have hfz74_2 := blk_frozen BK135.out 2
                                  have hfz74_3 := blk_frozen BK135.out 3
                                  have hfz74_4 := blk_frozen BK135.out 4
                                  obtain ⟨Ao75, co75, eo75⟩ := Kd.R_slice HO_5.out
                                  subst eo75
                                  go_wp2_with (first | ((with_reducible refine gate_callee (f := 94) rfl ?_); refine goesL_ (some 78) rfl rfl Tryd.func94 (by kernel_rfl) rfl #[.slice Ao75 x5_1.length co75, .string t137] rfl (by (try simp only [List.map_toArray, List.map_cons, List.map_nil]); first | done | rfl | (simp only [List.length_drop, List.length_take]; rfl)) ?_; (with_reducible refine (montageref31_has.calls kj29 _ _ x5_1 t137 false _ ?side1 ?side2 A66.out).mono ?_); (case side1 => refine (Kd.R_reads' (e := 9) (base := w.heap.size) (ok := fun k_ => True) (n := x5_1.length) (c := co75) ?_).2.2; exact (by (with_reducible repeat (first | apply Kd.R_alloc | apply Kd.R_drewN | apply Kd.R_drew)); exact (Kd.R_mono (Kd.R_far (p := ⟨gb135, 2, none⟩) (Kd.R_types HO_5.out BK135.out (by decide)) (fun _ hk => hk.2) (.bool true)) (fun _ h_ => h_.1)))); (case side2 => exact (Kd.R_reads' HO_5.out).2.1); rintro e w' ⟨rfl, ⟨nd, rfl⟩⟩; refine ⟨_, rfl, ?_⟩) | ((with_reducible refine gate_builtin (b := .append) (xs := #[.tmp 80, .tmp 82]) rfl ?_); at_builtin; refine Kd.R_append Kd.string (w0 := w) w.heap.size rfl (.tmp 80) (.tmp 82) 56 9 (.string ⟨#[]⟩) 16 rfl Tryd.underlying56 info9 rfl (by decide) (by omega) (.slice Ao75 x5_1.length co75) x5_1 t137 [.string t137] (fun _ => True) (fun _ => False) rfl (by first | (go_simp; done) | (go_simp; rfl)) ?aP (fun _ hk => hk.elim) ?aF ?aO ?aB ?aS ?aL ?_; (case aP => exact rfl); (case aB => exact (by repeat (first | (with_reducible first | exact HB.out | apply below_alloc | apply pw_below_drewN | apply below_drew1 | refine below_set ?_ GE134.out | refine below_set ?_ GE135.out) | exact HB.out))); (case aF => exact (fun _ _ => trivial)); (case aO => exact (by (with_reducible repeat (first | apply Kd.R_alloc | apply Kd.R_drewN | apply Kd.R_drew)); exact Kd.R_mono (Kd.R_far (p := ⟨gb135, 2, none⟩) (Kd.R_types HO_5.out BK135.out (by decide)) (fun _ hk => hk.2) (.bool true)) (fun _ hk => trivial))); (case aS => exact (below_size (by repeat (first | (with_reducible first | exact HB.out | apply below_alloc | apply pw_below_drewN | apply below_drew1 | refine below_set ?_ GE134.out | refine below_set ?_ GE135.out) | exact HB.out)))); (case aL => have := LMc72.out; omega); intro v158 w76 ho hb hg hat; rw [← Ny157.out] at ho; have n0_ := Aside0.mk (blk_grown (g := gb134) (o := .cells #[.int .i64 x135000_1, .bool x135001_1, .bool x135002_1, .bool x135003_1, .int .i64 x135004_1] 58 (0, 0)) (by (with_reducible repeat (first | refine blk_drewN ?_ _ | refine blk_drew ?_ | refine blk_alloc ?_ _)); refine blk_far ?_ NB134_135.out _; (with_reducible repeat (first | refine blk_drewN ?_ _ | refine blk_drew ?_ | refine blk_alloc ?_ _)); exact BK134.out) hg (Kd.R_ne HO_5.out BK134.out (by decide))); have n1_ := Aside0.mk (blk_grown (g := gb135) (o := .cells #[.int .i64 x136000_1, .bool x136001_1, .bool true, .bool x136003_1, .int .i64 x136004_1] 58 (0, 0)) (by (with_reducible repeat (first | refine blk_drewN ?_ _ | refine blk_drew ?_ | refine blk_alloc ?_ _)); refine blk_put (cs := #[.int .i64 x136000_1, .bool x136001_1, .bool x136002_1, .bool x136003_1, .int .i64 x136004_1]) ?_ 2 _ rfl; (with_reducible repeat (first | refine blk_drewN ?_ _ | refine blk_drew ?_ | refine blk_alloc ?_ _)); exact BK135.out) hg (Kd.R_ne HO_5.out BK135.out (by decide))); have n2_ := Aside0.mk (hb); have n3_ := Aside0.mk (ho); clear BK134; clear BK135; clear HB; clear HO_5; have BK134 := n0_; have BK135 := n1_; have HB := n2_; have HO159 := n3_; clear n0_ n1_ n2_ n3_; clear ho hb hg hat))
                                  go_roundg kj29
                                  case measure => have := HK1.out; have := HJ8.out; have := HJ29.out; omega
                                  case rel => exact ⟨(y157), (wrap64 (x6_1 + 1)), (x135000_1), (x135001_1), (x135002_1), (x135003_1), (x135004_1), (x136000_1), (x136001_1), (true), (x136003_1), (x136004_1), (by first | rfl | (simp; done) | (simp [*]; done)), H', ⟨by have := HK1.out; have := HJ8.out; have := HJ29.out; omega⟩, ⟨by (with_reducible repeat (first | apply Kd.R_alloc | apply Kd.R_drewN | apply Kd.R_drew)); exact HO159.out⟩, ⟨by (with_reducible repeat (first | refine blk_drewN ?_ _ | refine blk_drew ?_ | refine blk_alloc ?_ _)); exact BK134.out⟩, ⟨by (with_reducible repeat (first | refine blk_drewN ?_ _ | refine blk_drew ?_ | refine blk_alloc ?_ _)); exact BK135.out⟩, ⟨by repeat (first | (with_reducible first | exact HB.out | apply below_alloc | apply pw_below_drewN | apply below_drew1 | refine below_set ?_ GE134.out | refine below_set ?_ GE135.out) | exact HB.out)⟩⟩
                                · rw [if_neg c72] at H
                                  exact absurd H (by simp)
                            · rw [if_neg c65] at H
                              have c65b0 : ((rdOf ByteArray.empty l0 x6_1).toList == ([115, 104, 97, 114, 101] : List UInt8)) = false := beq_eq_false_iff_ne.mpr c65
                              have c65b1 : ((rdOf ByteArray.empty l0 x6_1).toList != ([115, 104, 97, 114, 101] : List UInt8)) = true := bne_iff_ne.mpr c65
                              by_cases c77 : (rdOf ByteArray.empty l0 x6_1).toList = ([119, 105, 100, 101] : List UInt8)
                              · rw [if_pos c77] at H
                                have c77b0 : ((rdOf ByteArray.empty l0 x6_1).toList == ([119, 105, 100, 101] : List UInt8)) = true := beq_iff_eq.mpr c77
                                have c77b1 : ((rdOf ByteArray.empty l0 x6_1).toList != ([119, 105, 100, 101] : List UInt8)) = false := bne_eq_false_iff_eq.mpr c77
                                clear c77
                                replace H := Option.bind_eq_some_iff.mp H
                                obtain ⟨t161, A780, H⟩ := H
                                replace H : (if t161 = true then (some (0, false, false, false, 0, 6)) else (if x5_1.length < 8796093022208 then (montageref31_Parse.l0 kj29 l0 (x5_1 ++ [t137]) (wrap64 (x6_1 + 1)) x136000_1 x136001_1 x136002_1 true x136004_1) else (none))) = some (r1, r2, r3, r4, r5, r6) := H
                                have A78 := Aside0.mk A780
                                clear A780
                                by_cases c79 : t161 = true
                                · subst c79
                                  have H1 : (some (0, false, false, false, 0, 6)) = some (r1, r2, r3, r4, r5, r6) := by rw [if_pos rfl] at H; exact H
                                  clear H
                                  have H := H1
                                  clear H1
                                  simp only [Option.some.injEq, Prod.mk.injEq] at H
                                  obtain ⟨rfl, rfl, rfl, rfl, rfl, rfl⟩ := H
                                  have p150 : 0 ≤ (x6_1 : Int) := of_decide_eq_true (by first | (with_reducible assumption) | assumption)
                                  have q150 : x6_1 < (l0.length : Int) := of_decide_eq_true (by first | (with_reducible assumption) | assumption)
                                  obtain ⟨ad150, e150, hx150_0⟩ := Kd.at_string HR0.out x6_1 p150 q150
                                  obtain rfl : ad136 = ad150 := (by injection e150)
                                  replace hx150_0 := (HB.out.cell (World.block_lt_of_cell? w _ hx150_0)).trans hx150_0
                                  replace p150 := eq_true p150
                                  replace q150 := eq_true q150
                                  have p155 : 0 ≤ (x6_1 : Int) := of_decide_eq_true (by first | (with_reducible assumption) | assumption)
                                  have q155 : x6_1 < (l0.length : Int) := of_decide_eq_true (by first | (with_reducible assumption) | assumption)
                                  obtain ⟨ad155, e155, hx155_0⟩ := Kd.at_string HR0.out x6_1 p155 q155
                                  obtain rfl : ad136 = ad155 := (by injection e155)
                                  replace hx155_0 := (HB.out.cell (World.block_lt_of_cell? w _ hx155_0)).trans hx155_0
                                  replace p155 := eq_true p155
                                  replace q155 := eq_true q155
                                  have p160 : 0 ≤ (x6_1 : Int) := of_decide_eq_true (by first | (with_reducible assumption) | assumption)
                                  have q160 : x6_1 < (l0.length : Int) := of_decide_eq_true (by first | (with_reducible assumption) | assumption)
                                  obtain ⟨ad160, e160, hx160_0⟩ := Kd.at_string HR0.out x6_1 p160 q160
                                  obtain rfl : ad136 = ad160 := (by injection e160)
                                  replace hx160_0 := (HB.out.cell (World.block_lt_of_cell? w _ hx160_0)).trans hx160_0
                                  replace p160 := eq_true p160
                                  replace q160 := eq_true q160
                                  have hnb80 := NB135_134.out
                                  have hnc80 := NB134_135.out
                                  have hcz81_0 : wc.cell? ⟨gb135, 0, none⟩ = some (.int .i64 x136000_1) := (blk_cell BK135.out 0).trans rfl
                                  have hcz81_1 : wc.cell? ⟨gb135, 1, none⟩ = some (.bool x136001_1) := (blk_cell BK135.out 1).trans rfl
                                  have hcz81_2 : wc.cell? ⟨gb135, 2, none⟩ = some (.bool x136002_1) := (blk_cell BK135.out 2).trans rfl
                                  have hcz81_3 : wc.cell? ⟨gb135, 3, none⟩ = some (.bool x136003_1) := (blk_cell BK135.out 3).trans rfl
                                  have hcz81_4 : wc.cell? ⟨gb135, 4, none⟩ = some (.int .i64 x136004_1) := (blk_cell BK135.out 4).trans rfl
                                  have hfz81_0 := blk_frozen BK135.out 0
                                  have hfz81_1 := blk_frozen BK135.out 1
                                  have hfz81_2 := blk_frozen BK135.out 2
                                  have hfz81_3 := blk_frozen BK135.out 3
                                  have hfz81_4 := blk_frozen BK135.out 4
                                  obtain ⟨Ao82, co82, eo82⟩ := Kd.R_slice HO_5.out
                                  subst eo82
                                  go_wp2_with (first | ((with_reducible refine gate_callee (f := 94) rfl ?_); refine goesL_ (some 78) rfl rfl Tryd.func94 (by kernel_rfl) rfl #[.slice Ao82 x5_1.length co82, .string t137] rfl (by (try simp only [List.map_toArray, List.map_cons, List.map_nil]); first | done | rfl | (simp only [List.length_drop, List.length_take]; rfl)) ?_; (with_reducible refine (montageref31_has.calls kj29 _ _ x5_1 t137 true _ ?side1 ?side2 A78.out).mono ?_); (case side1 => refine (Kd.R_reads' (e := 9) (base := w.heap.size) (ok := fun k_ => True) (n := x5_1.length) (c := co82) ?_).2.2; exact (by (with_reducible repeat (first | apply Kd.R_alloc | apply Kd.R_drewN | apply Kd.R_drew)); exact (Kd.R_mono (Kd.R_far (p := ⟨gb135, 3, none⟩) (Kd.R_types HO_5.out BK135.out (by decide)) (fun _ hk => hk.2) (.bool true)) (fun _ h_ => h_.1)))); (case side2 => exact (Kd.R_reads' HO_5.out).2.1); rintro e w' ⟨rfl, ⟨nd, rfl⟩⟩; refine ⟨_, rfl, ?_⟩; have hcz83_0 : wc.cell? ⟨gb134, 0, none⟩ = some (.int .i64 x135000_1) := (blk_cell BK134.out 0).trans rfl; have hcz83_1 : wc.cell? ⟨gb134, 1, none⟩ = some (.bool x135001_1) := (blk_cell BK134.out 1).trans rfl; have hcz83_2 : wc.cell? ⟨gb134, 2, none⟩ = some (.bool x135002_1) := (blk_cell BK134.out 2).trans rfl; have hcz83_3 : wc.cell? ⟨gb134, 3, none⟩ = some (.bool x135003_1) := (blk_cell BK134.out 3).trans rfl; have hcz83_4 : wc.cell? ⟨gb134, 4, none⟩ = some (.int .i64 x135004_1) := (blk_cell BK134.out 4).trans rfl; have hfz83_0 := blk_frozen BK134.out 0; have hfz83_1 := blk_frozen BK134.out 1; have hfz83_2 := blk_frozen BK134.out 2; have hfz83_3 := blk_frozen BK134.out 3; have hfz83_4 := blk_frozen BK134.out 4))
                                  refine bodyPost_ret (results_ct rfl _ _ gb134 58 #[.int .i64 0, .bool false, .bool false, .bool false, .int .i64 0] (0, 0) _ rfl (by (with_reducible repeat (first | refine blk_drewN ?_ _ | refine blk_drew ?_ | refine blk_alloc ?_ _)); refine blk_put (cs := #[.int .i64 0, .bool false, .bool false, .bool false, .int .i64 x135004_1]) ?_ 4 _ rfl; (with_reducible repeat (first | refine blk_drewN ?_ _ | refine blk_drew ?_ | refine blk_alloc ?_ _)); refine blk_put (cs := #[.int .i64 0, .bool false, .bool false, .bool x135003_1, .int .i64 x135004_1]) ?_ 3 _ rfl; (with_reducible repeat (first | refine blk_drewN ?_ _ | refine blk_drew ?_ | refine blk_alloc ?_ _)); refine blk_put (cs := #[.int .i64 0, .bool false, .bool x135002_1, .bool x135003_1, .int .i64 x135004_1]) ?_ 2 _ rfl; (with_reducible repeat (first | refine blk_drewN ?_ _ | refine blk_drew ?_ | refine blk_alloc ?_ _)); refine blk_put (cs := #[.int .i64 0, .bool x135001_1, .bool x135002_1, .bool x135003_1, .int .i64 x135004_1]) ?_ 1 _ rfl; (with_reducible repeat (first | refine blk_drewN ?_ _ | refine blk_drew ?_ | refine blk_alloc ?_ _)); refine blk_put (cs := #[.int .i64 x135000_1, .bool x135001_1, .bool x135002_1, .bool x135003_1, .int .i64 x135004_1]) ?_ 0 _ rfl; (with_reducible repeat (first | refine blk_drewN ?_ _ | refine blk_drew ?_ | refine blk_alloc ?_ _)); refine blk_far ?_ NB134_135.out _; (with_reducible repeat (first | refine blk_drewN ?_ _ | refine blk_drew ?_ | refine blk_alloc ?_ _)); exact BK134.out) Tryd.underlying58 rfl (by kernel_rfl)) rfl ?_
                                  exact ⟨by first | rfl | (simp [errW_none, errW_some] <;> rfl) | (simp [*, errW_none, errW_some] <;> rfl), by repeat (first | (with_reducible first | exact HB.out | apply below_alloc | apply pw_below_drewN | apply below_drew1 | refine below_set ?_ GE134.out | refine below_set ?_ GE135.out) | exact HB.out)⟩
                                · replace c79 := Bool.eq_false_iff.mpr c79
                                  subst c79
                                  have H1 : (if x5_1.length < 8796093022208 then (montageref31_Parse.l0 kj29 l0 (x5_1 ++ [t137]) (wrap64 (x6_1 + 1)) x136000_1 x136001_1 x136002_1 true x136004_1) else (none)) = some (r1, r2, r3, r4, r5, r6) := by rw [if_neg (show ¬ (false = true) by decide)] at H; exact H
                                  clear H
                                  have H := H1
                                  clear H1
                                  by_cases c84 : x5_1.length < 8796093022208
                                  · rw [if_pos c84] at H
                                    have LMc84 := Aside0.mk c84
                                    clear c84
                                    obtain ⟨y162, hy162⟩ : ∃ y_ : List ByteArray, y_ = (x5_1 ++ [t137]) := ⟨_, rfl⟩
                                    replace H : (montageref31_Parse.l0 kj29 l0 y162 (wrap64 (x6_1 + 1)) x136000_1 x136001_1 x136002_1 true x136004_1) = some (r1, r2, r3, r4, r5, r6) := by first | (rw [hy162]; with_reducible exact H) | (have H2_ := (Option.bind_some _ _).symm.trans H; rw [hy162]; with_reducible exact H2_) | (have H2_ := (Option.bind_some _ _).symm.trans H; with_reducible exact H2_) | with_reducible exact H | (rw [hy162]; exact H) | exact H
                                    have Ny162 := Aside0.mk hy162
                                    clear hy162
                                    have H' := Aside0.mk H
                                    clear H
                                    have p150 : 0 ≤ (x6_1 : Int) := of_decide_eq_true (by first | (with_reducible assumption) | assumption)
                                    have q150 : x6_1 < (l0.length : Int) := of_decide_eq_true (by first | (with_reducible assumption) | assumption)
                                    obtain ⟨ad150, e150, hx150_0⟩ := Kd.at_string HR0.out x6_1 p150 q150
                                    obtain rfl : ad136 = ad150 := (by injection e150)
                                    replace hx150_0 := (HB.out.cell (World.block_lt_of_cell? w _ hx150_0)).trans hx150_0
                                    replace p150 := eq_true p150
                                    replace q150 := eq_true q150
                                    have p155 : 0 ≤ (x6_1 : Int) := of_decide_eq_true (by first | (with_reducible assumption) | assumption)
                                    have q155 : x6_1 < (l0.length : Int) := of_decide_eq_true (by first | (with_reducible assumption) | assumption)
                                    obtain ⟨ad155, e155, hx155_0⟩ := Kd.at_string HR0.out x6_1 p155 q155
                                    obtain rfl : ad136 = ad155 := (by injection e155)
                                    replace hx155_0 := (HB.out.cell (World.block_lt_of_cell? w _ hx155_0)).trans hx155_0
                                    replace p155 := eq_true p155
                                    replace q155 := eq_true q155
                                    have p160 : 0 ≤ (x6_1 : Int) := of_decide_eq_true (by first | (with_reducible assumption) | assumption)
                                    have q160 : x6_1 < (l0.length : Int) := of_decide_eq_true (by first | (with_reducible assumption) | assumption)
                                    obtain ⟨ad160, e160, hx160_0⟩ := Kd.at_string HR0.out x6_1 p160 q160
                                    obtain rfl : ad136 = ad160 := (by injection e160)
                                    replace hx160_0 := (HB.out.cell (World.block_lt_of_cell? w _ hx160_0)).trans hx160_0
                                    replace p160 := eq_true p160
                                    replace q160 := eq_true q160
                                    have hnb85 := NB135_134.out
                                    have hnc85 := NB134_135.out
                                    have hcz86_0 : wc.cell? ⟨gb135, 0, none⟩ = some (.int .i64 x136000_1) := (blk_cell BK135.out 0).trans rfl
                                    have hcz86_1 : wc.cell? ⟨gb135, 1, none⟩ = some (.bool x136001_1) := (blk_cell BK135.out 1).trans rfl
                                    have hcz86_2 : wc.cell? ⟨gb135, 2, none⟩ = some (.bool x136002_1) := (blk_cell BK135.out 2).trans rfl
                                    have hcz86_3 : wc.cell? ⟨gb135, 3, none⟩ = some (.bool x136003_1) := (blk_cell BK135.out 3).trans rfl
                                    have hcz86_4 : wc.cell? ⟨gb135, 4, none⟩ = some (.int .i64 x136004_1) := (blk_cell BK135.out 4).trans rfl
                                    have hfz86_0 := blk_frozen BK135.out 0
                                    have hfz86_1 := blk_frozen BK135.out 1
                                    have hfz86_2 := blk_frozen BK135.out 2
                                    have hfz86_3 := blk_frozen BK135.out 3
                                    have hfz86_4 := blk_frozen BK135.out 4
                                    obtain ⟨Ao87, co87, eo87⟩ := Kd.R_slice HO_5.out
                                    subst eo87
                                    go_wp2_with (first | ((with_reducible refine gate_callee (f := 94) rfl ?_); refine goesL_ (some 78) rfl rfl Tryd.func94 (by kernel_rfl) rfl #[.slice Ao87 x5_1.length co87, .string t137] rfl (by (try simp only [List.map_toArray, List.map_cons, List.map_nil]); first | done | rfl | (simp only [List.length_drop, List.length_take]; rfl)) ?_; (with_reducible refine (montageref31_has.calls kj29 _ _ x5_1 t137 false _ ?side1 ?side2 A78.out).mono ?_); (case side1 => refine (Kd.R_reads' (e := 9) (base := w.heap.size) (ok := fun k_ => True) (n := x5_1.length) (c := co87) ?_).2.2; exact (by (with_reducible repeat (first | apply Kd.R_alloc | apply Kd.R_drewN | apply Kd.R_drew)); exact (Kd.R_mono (Kd.R_far (p := ⟨gb135, 3, none⟩) (Kd.R_types HO_5.out BK135.out (by decide)) (fun _ hk => hk.2) (.bool true)) (fun _ h_ => h_.1)))); (case side2 => exact (Kd.R_reads' HO_5.out).2.1); rintro e w' ⟨rfl, ⟨nd, rfl⟩⟩; refine ⟨_, rfl, ?_⟩) | ((with_reducible refine gate_builtin (b := .append) (xs := #[.tmp 80, .tmp 82]) rfl ?_); at_builtin; refine Kd.R_append Kd.string (w0 := w) w.heap.size rfl (.tmp 80) (.tmp 82) 56 9 (.string ⟨#[]⟩) 16 rfl Tryd.underlying56 info9 rfl (by decide) (by omega) (.slice Ao87 x5_1.length co87) x5_1 t137 [.string t137] (fun _ => True) (fun _ => False) rfl (by first | (go_simp; done) | (go_simp; rfl)) ?aP (fun _ hk => hk.elim) ?aF ?aO ?aB ?aS ?aL ?_; (case aP => exact rfl); (case aB => exact (by repeat (first | (with_reducible first | exact HB.out | apply below_alloc | apply pw_below_drewN | apply below_drew1 | refine below_set ?_ GE134.out | refine below_set ?_ GE135.out) | exact HB.out))); (case aF => exact (fun _ _ => trivial)); (case aO => exact (by (with_reducible repeat (first | apply Kd.R_alloc | apply Kd.R_drewN | apply Kd.R_drew)); exact Kd.R_mono (Kd.R_far (p := ⟨gb135, 3, none⟩) (Kd.R_types HO_5.out BK135.out (by decide)) (fun _ hk => hk.2) (.bool true)) (fun _ hk => trivial))); (case aS => exact (below_size (by repeat (first | (with_reducible first | exact HB.out | apply below_alloc | apply pw_below_drewN | apply below_drew1 | refine below_set ?_ GE134.out | refine below_set ?_ GE135.out) | exact HB.out)))); (case aL => have := LMc84.out; omega); intro v163 w88 ho hb hg hat; rw [← Ny162.out] at ho; have n0_ := Aside0.mk (blk_grown (g := gb134) (o := .cells #[.int .i64 x135000_1, .bool x135001_1, .bool x135002_1, .bool x135003_1, .int .i64 x135004_1] 58 (0, 0)) (by (with_reducible repeat (first | refine blk_drewN ?_ _ | refine blk_drew ?_ | refine blk_alloc ?_ _)); refine blk_far ?_ NB134_135.out _; (with_reducible repeat (first | refine blk_drewN ?_ _ | refine blk_drew ?_ | refine blk_alloc ?_ _)); exact BK134.out) hg (Kd.R_ne HO_5.out BK134.out (by decide))); have n1_ := Aside0.mk (blk_grown (g := gb135) (o := .cells #[.int .i64 x136000_1, .bool x136001_1, .bool x136002_1, .bool true, .int .i64 x136004_1] 58 (0, 0)) (by (with_reducible repeat (first | refine blk_drewN ?_ _ | refine blk_drew ?_ | refine blk_alloc ?_ _)); refine blk_put (cs := #[.int .i64 x136000_1, .bool x136001_1, .bool x136002_1, .bool x136003_1, .int .i64 x136004_1]) ?_ 3 _ rfl; (with_reducible repeat (first | refine blk_drewN ?_ _ | refine blk_drew ?_ | refine blk_alloc ?_ _)); exact BK135.out) hg (Kd.R_ne HO_5.out BK135.out (by decide))); have n2_ := Aside0.mk (hb); have n3_ := Aside0.mk (ho); clear BK134; clear BK135; clear HB; clear HO_5; have BK134 := n0_; have BK135 := n1_; have HB := n2_; have HO164 := n3_; clear n0_ n1_ n2_ n3_; clear ho hb hg hat))
                                    go_roundg kj29
                                    case measure => have := HK1.out; have := HJ8.out; have := HJ29.out; omega
                                    case rel => exact ⟨(y162), (wrap64 (x6_1 + 1)), (x135000_1), (x135001_1), (x135002_1), (x135003_1), (x135004_1), (x136000_1), (x136001_1), (x136002_1), (true), (x136004_1), (by first | rfl | (simp; done) | (simp [*]; done)), H', ⟨by have := HK1.out; have := HJ8.out; have := HJ29.out; omega⟩, ⟨by (with_reducible repeat (first | apply Kd.R_alloc | apply Kd.R_drewN | apply Kd.R_drew)); exact HO164.out⟩, ⟨by (with_reducible repeat (first | refine blk_drewN ?_ _ | refine blk_drew ?_ | refine blk_alloc ?_ _)); exact BK134.out⟩, ⟨by (with_reducible repeat (first | refine blk_drewN ?_ _ | refine blk_drew ?_ | refine blk_alloc ?_ _)); exact BK135.out⟩, ⟨by repeat (first | (with_reducible first | exact HB.out | apply below_alloc | apply pw_below_drewN | apply below_drew1 | refine below_set ?_ GE134.out | refine below_set ?_ GE135.out) | exact HB.out)⟩⟩
                                  · rw [if_neg c84] at H
                                    exact absurd H (by simp)
                              · rw [if_neg c77] at H
                                have c77b0 : ((rdOf ByteArray.empty l0 x6_1).toList == ([119, 105, 100, 101] : List UInt8)) = false := beq_eq_false_iff_ne.mpr c77
                                have c77b1 : ((rdOf ByteArray.empty l0 x6_1).toList != ([119, 105, 100, 101] : List UInt8)) = true := bne_iff_ne.mpr c77
                                simp only [Option.some.injEq, Prod.mk.injEq] at H
                                obtain ⟨rfl, rfl, rfl, rfl, rfl, rfl⟩ := H
                                have p150 : 0 ≤ (x6_1 : Int) := of_decide_eq_true (by first | (with_reducible assumption) | assumption)
                                have q150 : x6_1 < (l0.length : Int) := of_decide_eq_true (by first | (with_reducible assumption) | assumption)
                                obtain ⟨ad150, e150, hx150_0⟩ := Kd.at_string HR0.out x6_1 p150 q150
                                obtain rfl : ad136 = ad150 := (by injection e150)
                                replace hx150_0 := (HB.out.cell (World.block_lt_of_cell? w _ hx150_0)).trans hx150_0
                                replace p150 := eq_true p150
                                replace q150 := eq_true q150
                                have p155 : 0 ≤ (x6_1 : Int) := of_decide_eq_true (by first | (with_reducible assumption) | assumption)
                                have q155 : x6_1 < (l0.length : Int) := of_decide_eq_true (by first | (with_reducible assumption) | assumption)
                                obtain ⟨ad155, e155, hx155_0⟩ := Kd.at_string HR0.out x6_1 p155 q155
                                obtain rfl : ad136 = ad155 := (by injection e155)
                                replace hx155_0 := (HB.out.cell (World.block_lt_of_cell? w _ hx155_0)).trans hx155_0
                                replace p155 := eq_true p155
                                replace q155 := eq_true q155
                                have p160 : 0 ≤ (x6_1 : Int) := of_decide_eq_true (by first | (with_reducible assumption) | assumption)
                                have q160 : x6_1 < (l0.length : Int) := of_decide_eq_true (by first | (with_reducible assumption) | assumption)
                                obtain ⟨ad160, e160, hx160_0⟩ := Kd.at_string HR0.out x6_1 p160 q160
                                obtain rfl : ad136 = ad160 := (by injection e160)
                                replace hx160_0 := (HB.out.cell (World.block_lt_of_cell? w _ hx160_0)).trans hx160_0
                                replace p160 := eq_true p160
                                replace q160 := eq_true q160
                                have hnb89 := NB134_135.out
                                have hnc89 := NB135_134.out
                                have hcz90_0 : wc.cell? ⟨gb134, 0, none⟩ = some (.int .i64 x135000_1) := (blk_cell BK134.out 0).trans rfl
                                have hcz90_1 : wc.cell? ⟨gb134, 1, none⟩ = some (.bool x135001_1) := (blk_cell BK134.out 1).trans rfl
                                have hcz90_2 : wc.cell? ⟨gb134, 2, none⟩ = some (.bool x135002_1) := (blk_cell BK134.out 2).trans rfl
                                have hcz90_3 : wc.cell? ⟨gb134, 3, none⟩ = some (.bool x135003_1) := (blk_cell BK134.out 3).trans rfl
                                have hcz90_4 : wc.cell? ⟨gb134, 4, none⟩ = some (.int .i64 x135004_1) := (blk_cell BK134.out 4).trans rfl
                                have hfz90_0 := blk_frozen BK134.out 0
                                have hfz90_1 := blk_frozen BK134.out 1
                                have hfz90_2 := blk_frozen BK134.out 2
                                have hfz90_3 := blk_frozen BK134.out 3
                                have hfz90_4 := blk_frozen BK134.out 4
                                go_wp2
                                refine bodyPost_ret (results_ct rfl _ _ gb134 58 #[.int .i64 0, .bool false, .bool false, .bool false, .int .i64 0] (0, 0) _ rfl (by (with_reducible repeat (first | refine blk_drewN ?_ _ | refine blk_drew ?_ | refine blk_alloc ?_ _)); refine blk_put (cs := #[.int .i64 0, .bool false, .bool false, .bool false, .int .i64 x135004_1]) ?_ 4 _ rfl; (with_reducible repeat (first | refine blk_drewN ?_ _ | refine blk_drew ?_ | refine blk_alloc ?_ _)); refine blk_put (cs := #[.int .i64 0, .bool false, .bool false, .bool x135003_1, .int .i64 x135004_1]) ?_ 3 _ rfl; (with_reducible repeat (first | refine blk_drewN ?_ _ | refine blk_drew ?_ | refine blk_alloc ?_ _)); refine blk_put (cs := #[.int .i64 0, .bool false, .bool x135002_1, .bool x135003_1, .int .i64 x135004_1]) ?_ 2 _ rfl; (with_reducible repeat (first | refine blk_drewN ?_ _ | refine blk_drew ?_ | refine blk_alloc ?_ _)); refine blk_put (cs := #[.int .i64 0, .bool x135001_1, .bool x135002_1, .bool x135003_1, .int .i64 x135004_1]) ?_ 1 _ rfl; (with_reducible repeat (first | refine blk_drewN ?_ _ | refine blk_drew ?_ | refine blk_alloc ?_ _)); refine blk_put (cs := #[.int .i64 x135000_1, .bool x135001_1, .bool x135002_1, .bool x135003_1, .int .i64 x135004_1]) ?_ 0 _ rfl; (with_reducible repeat (first | refine blk_drewN ?_ _ | refine blk_drew ?_ | refine blk_alloc ?_ _)); exact BK134.out) Tryd.underlying58 rfl (by kernel_rfl)) rfl ?_
                                exact ⟨by first | rfl | (simp [errW_none, errW_some] <;> rfl) | (simp [*, errW_none, errW_some] <;> rfl), by repeat (first | (with_reducible first | exact HB.out | apply below_alloc | apply pw_below_drewN | apply below_drew1 | refine below_set ?_ GE134.out | refine below_set ?_ GE135.out) | exact HB.out)⟩
                        · rw [if_neg c52] at H
                          exact absurd H (by simp)
                      · rw [if_neg c51] at H
                        exact absurd H (by simp)
        · rw [if_neg c7] at H
          exact absurd H (by simp)
      · rw [if_neg c6] at H
        have c6b0 : decide (x6_1 < (l0.length : Int)) = false := decide_eq_false c6
        clear c6
        simp only [Option.some.injEq, Prod.mk.injEq] at H
        obtain ⟨rfl, rfl, rfl, rfl, rfl, rfl⟩ := H
        have hnb91 := NB135_134.out
        have hnc91 := NB134_135.out
        have hcz92_0 : wr.cell? ⟨gb135, 0, none⟩ = some (.int .i64 x136000_1) := (blk_cell BK135.out 0).trans rfl
        have hcz92_1 : wr.cell? ⟨gb135, 1, none⟩ = some (.bool x136001_1) := (blk_cell BK135.out 1).trans rfl
        have hcz92_2 : wr.cell? ⟨gb135, 2, none⟩ = some (.bool x136002_1) := (blk_cell BK135.out 2).trans rfl
        have hcz92_3 : wr.cell? ⟨gb135, 3, none⟩ = some (.bool x136003_1) := (blk_cell BK135.out 3).trans rfl
        have hcz92_4 : wr.cell? ⟨gb135, 4, none⟩ = some (.int .i64 x136004_1) := (blk_cell BK135.out 4).trans rfl
        have hfz92_0 := blk_frozen BK135.out 0
        have hfz92_1 := blk_frozen BK135.out 1
        have hfz92_2 := blk_frozen BK135.out 2
        have hfz92_3 := blk_frozen BK135.out 3
        have hfz92_4 := blk_frozen BK135.out 4
        have hcz93_0 : wr.cell? ⟨gb134, 0, none⟩ = some (.int .i64 x135000_1) := (blk_cell BK134.out 0).trans rfl
        have hcz93_1 : wr.cell? ⟨gb134, 1, none⟩ = some (.bool x135001_1) := (blk_cell BK134.out 1).trans rfl
        have hcz93_2 : wr.cell? ⟨gb134, 2, none⟩ = some (.bool x135002_1) := (blk_cell BK134.out 2).trans rfl
        have hcz93_3 : wr.cell? ⟨gb134, 3, none⟩ = some (.bool x135003_1) := (blk_cell BK134.out 3).trans rfl
        have hcz93_4 : wr.cell? ⟨gb134, 4, none⟩ = some (.int .i64 x135004_1) := (blk_cell BK134.out 4).trans rfl
        have hfz93_0 := blk_frozen BK134.out 0
        have hfz93_1 := blk_frozen BK134.out 1
        have hfz93_2 := blk_frozen BK134.out 2
        have hfz93_3 := blk_frozen BK134.out 3
        have hfz93_4 := blk_frozen BK134.out 4
        go_wp2
        refine bodyPost_ret (results_ct rfl _ _ gb134 58 #[.int .i64 x136000_1, .bool x136001_1, .bool x136002_1, .bool x136003_1, .int .i64 x136004_1] (0, 0) _ rfl (by (with_reducible repeat (first | refine blk_drewN ?_ _ | refine blk_drew ?_ | refine blk_alloc ?_ _)); refine blk_put (cs := #[.int .i64 x136000_1, .bool x136001_1, .bool x136002_1, .bool x136003_1, .int .i64 x135004_1]) ?_ 4 _ rfl; (with_reducible repeat (first | refine blk_drewN ?_ _ | refine blk_drew ?_ | refine blk_alloc ?_ _)); refine blk_put (cs := #[.int .i64 x136000_1, .bool x136001_1, .bool x136002_1, .bool x135003_1, .int .i64 x135004_1]) ?_ 3 _ rfl; (with_reducible repeat (first | refine blk_drewN ?_ _ | refine blk_drew ?_ | refine blk_alloc ?_ _)); refine blk_put (cs := #[.int .i64 x136000_1, .bool x136001_1, .bool x135002_1, .bool x135003_1, .int .i64 x135004_1]) ?_ 2 _ rfl; (with_reducible repeat (first | refine blk_drewN ?_ _ | refine blk_drew ?_ | refine blk_alloc ?_ _)); refine blk_put (cs := #[.int .i64 x136000_1, .bool x135001_1, .bool x135002_1, .bool x135003_1, .int .i64 x135004_1]) ?_ 1 _ rfl; (with_reducible repeat (first | refine blk_drewN ?_ _ | refine blk_drew ?_ | refine blk_alloc ?_ _)); refine blk_put (cs := #[.int .i64 x135000_1, .bool x135001_1, .bool x135002_1, .bool x135003_1, .int .i64 x135004_1]) ?_ 0 _ rfl; (with_reducible repeat (first | refine blk_drewN ?_ _ | refine blk_drew ?_ | refine blk_alloc ?_ _)); exact BK134.out) Tryd.underlying58 rfl (by kernel_rfl)) rfl ?_
        exact ⟨by first | rfl | (simp [errW_none, errW_some] <;> rfl) | (simp [*, errW_none, errW_some] <;> rfl), by repeat (first | (with_reducible first | exact HB.out | apply below_alloc | apply pw_below_drewN | apply below_drew1 | refine below_set ?_ GE134.out | refine below_set ?_ GE135.out) | exact HB.out)⟩

end Go.Proofs.YtdaofffedfccmaaDoor.XOptionAny
