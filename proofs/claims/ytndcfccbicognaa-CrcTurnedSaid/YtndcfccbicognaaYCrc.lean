/- The walks of the package crc, and that they say what the document's text says. It has no conditions. -/
import Derived.Test.YtndcfccbicognaaXCrcOfx1
import Derived.BigRegion
import Derived.RegionTactic
import Derived.ChangeAlike
namespace Go.Proofs.Ytndcfccbicognaa.XCrcOf
open Go.RowKit Go.Proofs.YtndcfccbicognaaW.PrintWords Go.Proofs.YtndcfccbicognaaW.PrintLast Go.Proofs.YtndcfccbicognaaW.PrintMore
set_option linter.unusedVariables false
set_option linter.unusedSimpArgs false

/-- A number moved by one bit. -/
def sh (c : Int) : Int := Go.bits .xor .u32 (c / 2) (Go.bits .and .u32 3988292384 ((-(Go.bits .and .u32 c 1)) % 4294967296))
def shN : Nat → Int → Int
  | 0, c => c
  | n + 1, c => shN n (sh c)

theorem w64 {x : Int} (h0 : -9223372036854775808 ≤ x) (h1 : x < 9223372036854775808) : wrap64 x = x := by unfold wrap64; omega

theorem shifted_l0 (n : Int) (hn : n ≤ 1000) : ∀ (d : Nat) (c i : Int), 0 ≤ i → n - i = d → crc_shifted.l0 (d + 1) c n i = some (shN d c)
  | 0, c, i, h0, hd => by
    simp only [crc_shifted.l0, shN]
    rw [if_neg (by omega)]
  | d + 1, c, i, h0, hd => by
    have h := shifted_l0 n hn d (sh c) (i + 1) (by omega) (by omega)
    rw [crc_shifted.l0, if_pos (by omega), w64 (by omega) (by omega)]
    exact h

theorem shifted_8 (c : Int) : crc_shifted.f 9 c 8 = some (shN 8 c) := shifted_l0 8 (by omega) 8 c 0 (by omega) (by omega)

/-- The table's cells behind k rounds. -/
def tabL (k : Nat) : List Value := (List.range k).map (fun (i : Nat) => Value.int .u32 (shN 8 (i : Int))) ++ List.replicate (256 - k) (Value.int .u32 0)
def tabAt (k : Nat) : Array Value := (tabL k).toArray

theorem tab_step (k : Nat) (hk : k < 256) : (tabAt k).setIfInBounds k (.int .u32 (shN 8 (k : Int))) = tabAt (k + 1) := by
  unfold tabAt tabL
  rw [List.setIfInBounds_toArray]
  congr 1
  rw [List.set_append_right _ _ (by simp), List.length_map, List.length_range, Nat.sub_self, show 256 - k = (256 - (k + 1)) + 1 from by omega, List.replicate_succ, List.set_cons_zero, List.range_succ, List.map_append, List.append_assoc]
  rfl

theorem tab_get (k : Nat) (j : Nat) (hj : j < 256) : ∃ v, (tabAt k)[j]? = some v := by
  unfold tabAt tabL
  by_cases h : j < k
  · exact ⟨Value.int .u32 (shN 8 (j : Int)), by simp [List.getElem?_append_left, h]⟩
  · refine ⟨Value.int .u32 0, ?_⟩
    rw [List.getElem?_toArray, List.getElem?_append_right (by simp; omega), List.getElem?_replicate, if_pos (by simp; omega)]

set_option maxHeartbeats 400000 in
set_option maxRecDepth 100000 in
theorem table_calls (w : World) : Calls Try.prog 57 #[] w fun e w' => ∃ g : Nat, e = .returned (.pointer (some ⟨g, 0, none⟩)) ∧ w.heap.size ≤ g ∧ w'.heap[g]? = some (.cells (tabAt 256) 101 (0, 0)) ∧ Below w.heap.size w w' := by
  go_enter Try.func57, Try.ntmps57
  go_wp2_with (first | ((with_reducible refine gate_dst (N := 1) rfl ?_); refine box_event rfl (N := 1) rfl (cs := tabAt 0) (t := 101) (by kernel_rfl) ?_; intro g hg w1 hblk hb; have GE := Aside0.mk (Nat.le_of_eq hg.symm); have BK := Aside0.mk hblk; have HB := Aside0.mk hb; clear hg hblk hb))
  go_loopw [3] (fun v3 wr => ∃ k : Nat, k ≤ 256 ∧ v3 = .int .i64 (k : Int) ∧ Aside0 (wr.heap[g]? = some (.cells (tabAt k) 101 (0, 0))) ∧ Aside0 (Below w.heap.size w wr)) (fun v3 _ => 256 - (intOf v3).toNat)
  case atStart => exact ⟨0, Nat.zero_le _, rfl, BK, HB⟩
  case round =>
    clear BK HB
    obtain ⟨k, hk, rfl, BK, HB⟩ := hrel
    by_cases hlt : k < 256
    · have c0 : decide ((k : Int) < 256) = true := decide_eq_true (by omega)
      have HC := Aside0.mk (tab_get k k hlt)
      go_wp2_with fail
      refine (crc_shifted.calls 9 (k : Int) 8 _ wr (shifted_8 (k : Int))).mono ?_
      rintro e w5 ⟨rfl, ⟨nd, rfl⟩⟩
      obtain ⟨v0, hv0⟩ := HC.out
      have hcell : wr.cell? ⟨g, k, none⟩ = some v0 := (blk_cell BK.out k).trans hv0
      have hfro := blk_frozen BK.out k
      clear hv0
      go_wp2
      go_roundw
      case rel => exact ⟨k + 1, by omega, by go_num, ⟨by (with_reducible repeat (first | refine blk_drewN ?_ _ | refine blk_drew ?_ | refine blk_alloc ?_ _)); exact blk_put BK.out k _ (tab_step k hlt)⟩, ⟨below_set (pw_below_drewN HB.out _) GE.out⟩⟩
      case measure => simp [intOf]; omega
    · have hk2 : k = 256 := by omega
      subst hk2
      go_wp2
      go_ret
      exact ⟨g, rfl, GE.out, BK.out, HB.out⟩

/-- A sum at block g: its table, what its bytes came to, how many they are. -/
def IsSum (B : Nat) (W : World) (g : Nat) (c n : Int) : Prop :=
  ∃ gt, B ≤ g ∧ B ≤ gt ∧ gt ≠ g ∧ W.heap[gt]? = some (.cells (tabAt 256) 101 (0, 0)) ∧ W.heap[g]? = some (.cells #[.pointer (some ⟨gt, 0, none⟩), .int .u32 c, .int .i64 n] 96 (0, 0))

set_option maxHeartbeats 400000 in
set_option maxRecDepth 100000 in
theorem new_calls (w : World) : Calls Try.prog 39 #[] w fun e w' => ∃ g : Nat, e = .returned (.pointer (some ⟨g, 0, none⟩)) ∧ IsSum w.heap.size w' g 4294967295 0 ∧ Below w.heap.size w w' := by
  go_enter Try.func39, Try.ntmps39
  go_wp2_with fail
  refine (table_calls w).mono ?_
  rintro e w1 ⟨gt, rfl, hge, hblk, hb⟩
  have GE := Aside0.mk hge
  have BK := Aside0.mk hblk
  have HB := Aside0.mk hb
  clear hge hblk hb
  go_wp2_with (first | ((with_reducible refine gate_dst (N := 3) rfl ?_); refine box_event rfl (N := 3) rfl (cs := #[.pointer (some ⟨gt, 0, none⟩), .int .u32 4294967295, .int .i64 0]) (t := 96) (by first | (go_simp; done) | (go_simp; rfl)) ?_; intro g hg w2 hblk2 hb2; have GG := Aside0.mk hg; have BK2 := Aside0.mk hblk2; have HB2 := Aside0.mk hb2; clear hg hblk2 hb2))
  go_ret
  have h1 := below_size HB.out
  have hgt := blk_lt BK.out
  have hgg := GG.out
  exact ⟨g, rfl, ⟨gt, by omega, GE.out, by omega, blk_below BK.out HB2.out, BK2.out⟩, below_step HB.out HB2.out⟩

theorem xor8 (a b : Int) : 0 ≤ Go.bits .xor .u8 a b ∧ Go.bits .xor .u8 a b < 256 := by
  have h : ∀ n : Int, 0 ≤ IntKind.u8.wrap n ∧ IntKind.u8.wrap n < 256 := fun n => by rw [IntKind.wrap_u8]; omega
  exact h _

/-- A sum's number behind one byte more. -/
def up1 (c b : Int) : Int := Go.bits .xor .u32 (c / 256) (shN 8 (Go.bits .xor .u8 (c % 256) b))
/-- Behind the first k bytes of s. -/
def upS (c : Int) (s : ByteArray) : Nat → Int
  | 0 => c
  | k + 1 => up1 (upS c s k) (bt s (k : Int))

theorem tab_at (i : Int) (h0 : 0 ≤ i) (h1 : i < 256) : (tabAt 256)[i.toNat]? = some (.int .u32 (shN 8 i)) := by
  unfold tabAt tabL
  rw [List.getElem?_toArray, List.getElem?_append_left (by simp; omega), List.getElem?_map, List.getElem?_range (by omega)]
  simp only [Option.map_some]
  rw [show ((i.toNat : Nat) : Int) = i from by omega]

theorem up1_range (c b : Int) : 0 ≤ up1 c b ∧ up1 c b < 4294967296 := by
  have h : ∀ n : Int, 0 ≤ IntKind.u32.wrap n ∧ IntKind.u32.wrap n < 4294967296 := fun n => by rw [IntKind.wrap_u32]; omega
  exact h _

theorem upS_range (c : Int) (s : ByteArray) (h : 0 ≤ c ∧ c < 4294967296) : ∀ k, 0 ≤ upS c s k ∧ upS c s k < 4294967296
  | 0 => h
  | k + 1 => up1_range _ _

theorem grown_set0 {w w1 : World} {g j : Nat} {v : Value} (h : w.grownBy w1 (some g)) : w.grownBy (w1.setCell ⟨g, j, none⟩ v) (some g) := by
  refine ⟨h.os, h.tape, h.output, ?_, fun k hk hne => ?_⟩
  · simpa using h.size
  · rw [Below.heap_setCell _ _ _ _ (fun e => hne (by rw [e]))]
    exact h.block k hk hne

theorem grown_set {w w1 : World} {g j : Nat} {v : Value} (h : w.grownBy w1 (some g)) : w.grownBy (w1.drew.setCell ⟨g, j, none⟩ v) (some g) := by
  refine ⟨h.os, h.tape, h.output, ?_, fun k hk hne => ?_⟩
  · simpa using h.size
  · rw [Below.heap_setCell _ _ _ _ (fun e => hne (by rw [e]))]
    exact h.block k hk hne

theorem grown_refl (w : World) (row : Option Nat) : w.grownBy w row := by constructor <;> first | rfl | exact Nat.le_refl _ | (intros; rfl) | simp

set_option maxHeartbeats 800000 in
set_option maxRecDepth 100000 in
theorem add_calls (B g : Nat) (c n : Int) (hc : 0 ≤ c ∧ c < 4294967296) (s : ByteArray) (hs : s.size ≤ 140737488351232) (w : World) (hI : IsSum B w g c n) :
    Calls Try.prog 40 #[.pointer (some ⟨g, 0, none⟩), .string s] w fun e w' => e = .returned (.pointer (some ⟨g, 0, none⟩)) ∧ IsSum B w' g (upS c s s.size) (wrap64 (n + s.size)) ∧ w.grownBy w' (some g) := by
  obtain ⟨gt, h1, h2, h3, h4, h5⟩ := hI
  have G0 := Aside0.mk h1
  have G1 := Aside0.mk h2
  have G2 := Aside0.mk h3
  have BT := Aside0.mk h4
  have BK := Aside0.mk h5
  clear h1 h2 h3 h4 h5
  go_enter Try.func40, Try.ntmps40
  go_wp2
  go_loopw [5, 10] (fun v5 v10 wr => ∃ k : Nat, k ≤ s.size ∧ v10 = .int .i64 (k : Int) ∧ Aside0 (wr.heap[gt]? = some (.cells (tabAt 256) 101 (0, 0))) ∧ Aside0 (wr.heap[g]? = some (.cells #[.pointer (some ⟨gt, 0, none⟩), .int .u32 (upS c s k), .int .i64 n] 96 (0, 0))) ∧ Aside0 (w.grownBy wr (some g))) (fun _ v10 _ => s.size - (intOf v10).toNat)
  case atStart => exact ⟨0, Nat.zero_le _, rfl, BT, BK, ⟨grown_refl _ _⟩⟩
  case round =>
    clear BT BK
    obtain ⟨k, hk, rfl, BT, BK, HG⟩ := hrel
    by_cases hlt : k < s.size
    · have c0 : decide ((k : Int) < (s.size : Int)) = true := decide_eq_true (by omega)
      have hr := upS_range c s hc k
      obtain ⟨ck, hck⟩ : ∃ ck, ck = upS c s k := ⟨_, rfl⟩
      rw [← hck] at BK hr
      obtain ⟨b, hb⟩ : ∃ b, b = bt s (k : Int) := ⟨_, rfl⟩
      have hbr : 0 ≤ b ∧ b ≤ 255 := by rw [hb]; exact bt_range s _
      have hx := xor8 (ck % 256) b
      obtain ⟨x, hxe⟩ : ∃ x, x = Go.bits .xor .u8 (ck % 256) b := ⟨_, rfl⟩
      rw [← hxe] at hx
      have c1 : wr.cell? ⟨g, 0, none⟩ = some (.pointer (some ⟨gt, 0, none⟩)) := (blk_cell BK.out 0).trans rfl
      have c2 : wr.cell? ⟨g, 1, none⟩ = some (.int .u32 ck) := (blk_cell BK.out 1).trans rfl
      have c3 : wr.cell? ⟨gt, x.toNat, none⟩ = some (.int .u32 (shN 8 x)) := (blk_cell BT.out x.toNat).trans (tab_at x hx.1 hx.2)
      have f1 := blk_frozen BK.out 1
      have HCK := Aside0.mk hck
      have HX := Aside0.mk hxe
      have hbe : ((s[k]'hlt).toNat : Int) = b := by rw [hb]; exact bt_at s (k : Int) (by rw [Int.toNat_natCast]; exact hlt)
      have hx1 : Go.bits .xor .u8 (ck % 256) b = x := hxe.symm
      have hx2 : Go.bits .xor .u8 (IntKind.u8.wrap ck) b = x := by rw [IntKind.wrap_u8]; exact hxe.symm
      have HB := Aside0.mk hb
      clear hck hxe hb
      go_wp2
      go_region
      have hnew : up1 ck b = Go.bits .xor .u32 (ck / 256) (shN 8 x) := by unfold up1; rw [hx1]
      have hS : upS c s (k + 1) = Go.bits .xor .u32 (ck / 256) (shN 8 x) := by rw [← hnew, HCK.out, HB.out]; rfl
      have HS := Aside0.mk hS
      clear hS hnew
      go_wp2
      go_roundw
      case rel => exact ⟨k + 1, by omega, by go_num, ⟨by refine blk_far ?_ (by exact G2.out) _; (with_reducible repeat (first | refine blk_drewN ?_ _ | refine blk_drew ?_ | refine blk_alloc ?_ _)); exact BT.out⟩, ⟨by rw [HS.out]; refine blk_put (cs := #[.pointer (some ⟨gt, 0, none⟩), .int .u32 ck, .int .i64 n]) ?_ 1 _ rfl; (with_reducible repeat (first | refine blk_drewN ?_ _ | refine blk_drew ?_ | refine blk_alloc ?_ _)); exact BK.out⟩, ⟨grown_set HG.out⟩⟩
      case measure => simp [intOf]; omega
    · have hk2 : k = s.size := by omega
      subst hk2
      have c1 : wr.cell? ⟨g, 2, none⟩ = some (.int .i64 n) := (blk_cell BK.out 2).trans rfl
      have f1 := blk_frozen BK.out 2
      go_wp2
      go_ret
      exact ⟨rfl, ⟨gt, G0.out, G1.out, G2.out, by refine blk_far ?_ (by exact G2.out) _; (with_reducible repeat (first | refine blk_drewN ?_ _ | refine blk_drew ?_ | refine blk_alloc ?_ _)); exact BT.out, by refine blk_put (cs := #[.pointer (some ⟨gt, 0, none⟩), .int .u32 (upS c s s.size), .int .i64 n]) ?_ 2 _ rfl; (with_reducible repeat (first | refine blk_drewN ?_ _ | refine blk_drew ?_ | refine blk_alloc ?_ _)); exact BK.out⟩, grown_set0 HG.out⟩

/-- All bits turned. -/
def notU (c : Int) : Int := Go.bits .xor .u32 4294967295 c

set_option maxHeartbeats 400000 in
set_option maxRecDepth 100000 in
theorem value_calls (B g : Nat) (c n : Int) (hc : 0 ≤ c ∧ c < 4294967296) (w : World) (hI : IsSum B w g c n) :
    Calls Try.prog 41 #[.pointer (some ⟨g, 0, none⟩)] w fun e w' => e = .returned (.int .u32 (notU c)) ∧ w = w' := by
  obtain ⟨gt, _, _, _, _, h5⟩ := hI
  have BK := Aside0.mk h5
  clear h5
  have c1 : w.cell? ⟨g, 1, none⟩ = some (.int .u32 c) := (blk_cell BK.out 1).trans rfl
  go_enter Try.func41, Try.ntmps41
  go_wp2
  go_ret
  exact ⟨rfl, rfl⟩

set_option maxHeartbeats 400000 in
set_option maxRecDepth 100000 in
theorem len_calls (B g : Nat) (c n : Int) (w : World) (hI : IsSum B w g c n) :
    Calls Try.prog 42 #[.pointer (some ⟨g, 0, none⟩)] w fun e w' => e = .returned (.int .i64 n) ∧ w = w' := by
  obtain ⟨gt, _, _, _, _, h5⟩ := hI
  have BK := Aside0.mk h5
  clear h5
  have c1 : w.cell? ⟨g, 2, none⟩ = some (.int .i64 n) := (blk_cell BK.out 2).trans rfl
  go_enter Try.func42, Try.ntmps42
  go_wp2
  go_ret
  exact ⟨rfl, rfl⟩

set_option maxHeartbeats 400000 in
theorem value_nil (w : World) : Calls Try.prog 41 #[.pointer none] w fun e w' => e = .returned (.int .u32 0) ∧ w = w' := by
  go_enter Try.func41, Try.ntmps41
  go_wp2
  go_ret
  exact ⟨rfl, rfl⟩

set_option maxHeartbeats 400000 in
theorem len_nil (w : World) : Calls Try.prog 42 #[.pointer none] w fun e w' => e = .returned (.int .i64 0) ∧ w = w' := by
  go_enter Try.func42, Try.ntmps42
  go_wp2
  go_ret
  exact ⟨rfl, rfl⟩

set_option maxHeartbeats 400000 in
theorem add_nil (s : ByteArray) (w : World) : Calls Try.prog 40 #[.pointer none, .string s] w fun e w' => e = .returned (.pointer none) ∧ w = w' := by
  go_enter Try.func40, Try.ntmps40
  go_wp2
  go_ret
  exact ⟨rfl, rfl⟩

/-- The CRC of bytes, as the program's text has it. -/
def crcOf (s : ByteArray) : Int := notU (upS 4294967295 s s.size)

theorem below_grown {w w1 : World} {g B : Nat} (h : w.grownBy w1 (some g)) (hg : B ≤ g) (hB : B ≤ w.heap.size) : Below B w w1 :=
  ⟨h.os, h.tape, h.output, h.size, fun k hk => h.block k (by omega) (fun e => by injection e with e; omega)⟩

set_option maxHeartbeats 400000 in
set_option maxRecDepth 100000 in
theorem of_calls (s : ByteArray) (hs : s.size ≤ 140737488351232) (w : World) :
    Calls Try.prog 36 #[.string s] w fun e w' => e = .returned (.int .u32 (crcOf s)) ∧ Below w.heap.size w w' := by
  go_enter Try.func36, Try.ntmps36
  go_wp2_with fail
  refine (new_calls w).mono ?_
  rintro e w1 ⟨g, rfl, hI, hb⟩
  have HB := Aside0.mk hb
  have HI := Aside0.mk hI
  clear hb hI
  go_wp2_with fail
  refine (add_calls w.heap.size g 4294967295 0 (by omega) s hs w1 HI.out).mono ?_
  rintro e w2 ⟨rfl, hI2, hg⟩
  have HI2 := Aside0.mk hI2
  have HG := Aside0.mk hg
  clear hI2 hg
  go_wp2_with fail
  refine (value_calls w.heap.size g _ _ (upS_range 4294967295 s (by omega) s.size) w2 HI2.out).mono ?_
  rintro e w3 ⟨rfl, rfl⟩
  go_wp2
  go_ret
  refine ⟨rfl, ?_⟩
  obtain ⟨_, hge, _⟩ := HI.out
  exact HB.out.trans (below_grown HG.out hge HB.out.size)

set_option maxHeartbeats 400000 in
set_option maxRecDepth 100000 in
theorem awake_calls (w : World) : Calls Try.prog 35 #[] w fun e w' => e = .returned (.bool true) ∧ Below w.heap.size w w' := by
  go_enter Try.func35, Try.ntmps35
  go_wp2_with fail
  refine (of_calls (⟨#[49, 50, 51, 52, 53, 54, 55, 56, 57]⟩ : ByteArray) (by decide) w).mono ?_
  rintro e w1 ⟨rfl, hb⟩
  rw [show crcOf (⟨#[49, 50, 51, 52, 53, 54, 55, 56, 57]⟩ : ByteArray) = 3421780262 from by decide +kernel]
  have HB := Aside0.mk hb
  clear hb
  go_wp2_with fail
  refine (new_calls w1).mono ?_
  rintro e w2 ⟨g, rfl, hI, hb⟩
  have HB2 := Aside0.mk hb
  have HI := Aside0.mk hI
  clear hb hI
  go_wp2_with fail
  refine (add_calls w1.heap.size g 4294967295 0 (by omega) (⟨#[49, 50, 51, 52]⟩ : ByteArray) (by decide) w2 HI.out).mono ?_
  rintro e w3 ⟨rfl, hI2, hg⟩
  rw [show upS 4294967295 (⟨#[49, 50, 51, 52]⟩ : ByteArray) (⟨#[49, 50, 51, 52]⟩ : ByteArray).size = 1679564636 from by decide +kernel] at hI2
  have HI2 := Aside0.mk hI2
  have HG := Aside0.mk hg
  clear hI2 hg
  go_wp2_with fail
  refine (add_calls w1.heap.size g _ _ (by omega) (⟨#[53, 54, 55, 56, 57]⟩ : ByteArray) (by decide) w3 HI2.out).mono ?_
  rintro e w4 ⟨rfl, hI3, hg⟩
  have HI3 := Aside0.mk hI3
  have HG2 := Aside0.mk hg
  clear hI3 hg
  go_wp2_with fail
  refine (value_calls w1.heap.size g _ _ (upS_range _ _ (by omega) _) w4 HI3.out).mono ?_
  rintro e w5 ⟨rfl, rfl⟩
  rw [show notU (upS 1679564636 (⟨#[53, 54, 55, 56, 57]⟩ : ByteArray) (⟨#[53, 54, 55, 56, 57]⟩ : ByteArray).size) = 3421780262 from by decide +kernel]
  go_wp2_with fail
  refine (new_calls w4).mono ?_
  rintro e w6 ⟨g2, rfl, hI, hb⟩
  have HB3 := Aside0.mk hb
  have HI4 := Aside0.mk hI
  clear hb hI
  go_wp2_with fail
  refine (add_calls w4.heap.size g2 4294967295 0 (by omega) (⟨#[97, 98]⟩ : ByteArray) (by decide) w6 HI4.out).mono ?_
  rintro e w7 ⟨rfl, hI2, hg⟩
  rw [show wrap64 (0 + ((⟨#[97, 98]⟩ : ByteArray).size : Int)) = 2 from by decide +kernel] at hI2
  have HI5 := Aside0.mk hI2
  have HG3 := Aside0.mk hg
  clear hI2 hg
  go_wp2_with fail
  refine (len_calls w4.heap.size g2 _ _ w7 HI5.out).mono ?_
  rintro e w8 ⟨rfl, rfl⟩
  go_wp2
  go_ret
  refine ⟨rfl, ?_⟩
  obtain ⟨_, g1, _⟩ := HI.out
  obtain ⟨_, g1', _⟩ := HI4.out
  have s1 := HB.out.size
  have s2 := HB2.out.size
  have s3 := HG.out.size
  have s4 := HG2.out.size
  have s5 := HB3.out.size
  exact ((((HB.out.trans (HB2.out.mono s1)).trans (below_grown HG.out (by omega) (by omega))).trans (below_grown HG2.out (by omega) (by omega))).trans (HB3.out.mono (by omega))).trans (below_grown HG3.out (by omega) (by omega))

theorem tableR : montageref03_table.f 2700 = some ((List.range 256).map fun (i : Nat) => shN 8 (i : Int)) := by kernel_rfl

theorem bits_xor (k : IntKind) (j : Nat) (hj : j ≤ k.bits) (hk : ∀ n : Int, 0 ≤ n → n < 2 ^ j → k.wrap n = n) (a b : Nat) (ha : a < 2 ^ j) (hb : b < 2 ^ j) :
    Go.bits .xor k a b = ((a ^^^ b : Nat) : Int) := by
  have hp : 2 ^ j ≤ 2 ^ k.bits := Nat.pow_le_pow_right (by decide) hj
  have ha' : a % 2 ^ k.bits = a := Nat.mod_eq_of_lt (Nat.lt_of_lt_of_le ha hp)
  have hb' : b % 2 ^ k.bits = b := Nat.mod_eq_of_lt (Nat.lt_of_lt_of_le hb hp)
  have cast : ∀ n : Nat, n < 2 ^ j → ((n : Nat) : Int) < 2 ^ j := fun n h => by exact_mod_cast h
  simp only [Go.bits, BitVec.ofInt_natCast, BitVec.toNat_xor, BitVec.toNat_ofNat, ha', hb']
  exact hk _ (Int.natCast_nonneg _) (cast _ (Nat.xor_lt_two_pow ha hb))

theorem xor_u32 (a b : Nat) (ha : a < 4294967296) (hb : b < 4294967296) : Go.bits .xor .u32 (a : Int) (b : Int) = ((a ^^^ b : Nat) : Int) :=
  bits_xor .u32 32 (by decide) (fun n h0 h1 => by rw [IntKind.wrap_u32]; have : (2 : Int) ^ 32 = 4294967296 := by decide
                                                  omega) a b ha hb
theorem xor_u8 (a b : Nat) (ha : a < 256) (hb : b < 256) : Go.bits .xor .u8 (a : Int) (b : Int) = ((a ^^^ b : Nat) : Int) :=
  bits_xor .u8 8 (by decide) (fun n h0 h1 => by rw [IntKind.wrap_u8]; have : (2 : Int) ^ 8 = 256 := by decide
                                                omega) a b ha hb

theorem xor_same (a b : Int) (a0 : 0 ≤ a) (a1 : a < 256) (b0 : 0 ≤ b) (b1 : b < 256) : Go.bits .xor .u32 a b = Go.bits .xor .u8 a b := by
  obtain ⟨x, rfl⟩ := Int.eq_ofNat_of_zero_le a0
  obtain ⟨y, rfl⟩ := Int.eq_ofNat_of_zero_le b0
  rw [xor_u32 x y (by omega) (by omega), xor_u8 x y (by omega) (by omega)]

theorem notU_comm (c : Int) (c0 : 0 ≤ c) (c1 : c < 4294967296) : Go.bits .xor .u32 c 4294967295 = notU c := by
  obtain ⟨x, rfl⟩ := Int.eq_ofNat_of_zero_le c0
  unfold notU
  have h1 := xor_u32 x 4294967295 (by omega) (by omega)
  have h2 := xor_u32 4294967295 x (by omega) (by omega)
  rw [Nat.xor_comm] at h2
  exact h1.trans h2.symm

theorem ref_l0 (s : ByteArray) (hs : s.size ≤ 1000) : ∀ (d k : Nat), s.size - k = d → k ≤ s.size → Ev (fun q => montageref03_Of.l0 q s ((List.range 256).map fun (i : Nat) => shN 8 (i : Int)) (upS 4294967295 s k) (k : Int)) (crcOf s) := by
  intro d
  induction d with
  | zero =>
    intro k hd hk
    obtain rfl : k = s.size := by omega
    have hr := upS_range 4294967295 s (by omega) s.size
    refine Ev.step (f := fun _ => some (crcOf s)) (fun q => ?_) (Ev.now _)
    simp only [montageref03_Of.l0]
    rw [if_neg (by omega), notU_comm _ hr.1 hr.2]
    rfl
  | succ d ih =>
    intro k hd hk
    have h := ih (k + 1) (by omega) (by omega)
    have hr := upS_range 4294967295 s (by omega) k
    have hb := bt_range s (k : Int)
    have e1 : Int.tmod (upS 4294967295 s k) 256 = upS 4294967295 s k % 256 := Int.tmod_eq_emod_of_nonneg hr.1
    have e2 : Int.tdiv (upS 4294967295 s k) 256 % 4294967296 = upS 4294967295 s k / 256 := by
      rw [Int.tdiv_eq_ediv_of_nonneg hr.1]; omega
    have e3 : Go.bits .xor .u32 (upS 4294967295 s k % 256) (bt s (k : Int) % 4294967296) = Go.bits .xor .u8 (upS 4294967295 s k % 256) (bt s (k : Int)) := by
      rw [show bt s (k : Int) % 4294967296 = bt s (k : Int) from by omega]
      exact xor_same _ _ (by omega) (by omega) hb.1 (by omega)
    have hx := xor8 (upS 4294967295 s k % 256) (bt s (k : Int))
    have e4 : rd ((List.range 256).map fun (i : Nat) => shN 8 (i : Int)) (Go.bits .xor .u8 (upS 4294967295 s k % 256) (bt s (k : Int))) = shN 8 (Go.bits .xor .u8 (upS 4294967295 s k % 256) (bt s (k : Int))) := by
      unfold rd
      rw [List.getD_eq_getElem?_getD, List.getElem?_map, List.getElem?_range (by omega)]
      simp only [Option.map_some, Option.getD_some]
      rw [Int.toNat_of_nonneg hx.1]
    refine Ev.step (fun q => ?_) h
    simp only [montageref03_Of.l0]
    rw [e1, e2, e3, if_pos (by omega), if_pos (by omega), if_pos hx.1, if_pos (by simp; omega), e4, w64 (by omega) (by omega)]
    rfl

theorem ref_of (s : ByteArray) (hs : s.size ≤ 1000) : ∃ q, montageref03_Of.f q s = some (crcOf s) := by
  refine Ev.rounds ?_
  exact Ev.bind (f := fun q t => montageref03_Of.l0 q s t 4294967295 0) (Ev.of montageref03_table.mono tableR) (ref_l0 s hs s.size 0 rfl (by omega))
end Go.Proofs.Ytndcfccbicognaa.XCrcOf
