-- Written by this session's own program wip/xprint.py: a changed copy of the kit's print.
import Derived.Test.YtdaofffedfccmaaDoorXArmorSignsx0
import Derived.Test.YtdaofffedfccmaaDoorXArmorSignsx1
namespace Go.Proofs.YtdaofffedfccmaaDoor.XArmorSigns
open Go.RowKit Go.Proofs.YtdaofffedfccmaaDoorW.PrintWords Go.Proofs.YtdaofffedfccmaaDoorW.PrintLast Go.Proofs.YtdaofffedfccmaaDoorW.PrintMore
attribute [local go_sem] max2_int min2_int max_two min_two max_three min_three max_four min_four   -- for this text's walks alone
set_option linter.unusedVariables false
set_option linter.unusedSimpArgs false

/-! ### crc_Of: function 107 -/
-- rounds: no making: yes
-- uses: montage/crc.shifted
/-- A number moved by one bit. -/
def sh (c : Int) : Int := Go.bits .xor .u32 (c / 2) (Go.bits .and .u32 3988292384 ((-(Go.bits .and .u32 c 1)) % 4294967296))
def shN : Nat → Int → Int
  | 0, c => c
  | n + 1, c => shN n (sh c)

theorem w64 {x : Int} (h0 : -9223372036854775808 ≤ x) (h1 : x < 9223372036854775808) : wrap64 x = x := by unfold wrap64; omega

theorem shifted_l0 (n : Int) (hn : n ≤ 1000) : ∀ (d : Nat) (c i : Int), 0 ≤ i → n - i = d → crc_shifted.l0 (d + 1) c n i = some (shN d c)
  | 0, c, i, h0, hd => by
    simp only [crc_shifted.l0, shN]
    rw [if_neg (by omega)]
  | d + 1, c, i, h0, hd => by
    have h := shifted_l0 n hn d (sh c) (i + 1) (by omega) (by omega)
    rw [crc_shifted.l0, if_pos (by omega), w64 (by omega) (by omega)]
    exact h

theorem shifted_8 (c : Int) : crc_shifted.f 9 c 8 = some (shN 8 c) := shifted_l0 8 (by omega) 8 c 0 (by omega) (by omega)

/-- The table's cells behind k rounds. -/
def tabL (k : Nat) : List Value := (List.range k).map (fun (i : Nat) => Value.int .u32 (shN 8 (i : Int))) ++ List.replicate (256 - k) (Value.int .u32 0)
def tabAt (k : Nat) : Array Value := (tabL k).toArray

theorem tab_step (k : Nat) (hk : k < 256) : (tabAt k).setIfInBounds k (.int .u32 (shN 8 (k : Int))) = tabAt (k + 1) := by
  unfold tabAt tabL
  rw [List.setIfInBounds_toArray]
  congr 1
  rw [List.set_append_right _ _ (by simp), List.length_map, List.length_range, Nat.sub_self, show 256 - k = (256 - (k + 1)) + 1 from by omega, List.replicate_succ, List.set_cons_zero, List.range_succ, List.map_append, List.append_assoc]
  rfl

theorem tab_get (k : Nat) (j : Nat) (hj : j < 256) : ∃ v, (tabAt k)[j]? = some v := by
  unfold tabAt tabL
  by_cases h : j < k
  · exact ⟨Value.int .u32 (shN 8 (j : Int)), by simp [List.getElem?_append_left, h]⟩
  · refine ⟨Value.int .u32 0, ?_⟩
    rw [List.getElem?_toArray, List.getElem?_append_right (by simp; omega), List.getElem?_replicate, if_pos (by simp; omega)]

set_option maxHeartbeats 400000 in
set_option maxRecDepth 100000 in
theorem table_calls (w : World) : Calls Tryd.prog 156 #[] w fun e w' => ∃ g : Nat, e = .returned (.pointer (some ⟨g, 0, none⟩)) ∧ w.heap.size ≤ g ∧ w'.heap[g]? = some (.cells (tabAt 256) 192 (0, 0)) ∧ Below w.heap.size w w' := by
  go_enter Tryd.func156, Tryd.ntmps156
  go_wp2_with (first | ((with_reducible refine gate_dst (N := 1) rfl ?_); refine box_event rfl (N := 1) rfl (cs := tabAt 0) (t := 192) (by kernel_rfl) ?_; intro g hg w1 hblk hb; have GE := Aside0.mk (Nat.le_of_eq hg.symm); have BK := Aside0.mk hblk; have HB := Aside0.mk hb; clear hg hblk hb))
  go_loopw [3] (fun v3 wr => ∃ k : Nat, k ≤ 256 ∧ v3 = .int .i64 (k : Int) ∧ Aside0 (wr.heap[g]? = some (.cells (tabAt k) 192 (0, 0))) ∧ Aside0 (Below w.heap.size w wr)) (fun v3 _ => 256 - (intOf v3).toNat)
  case atStart => exact ⟨0, Nat.zero_le _, rfl, BK, HB⟩
  case round =>
    clear BK HB
    obtain ⟨k, hk, rfl, BK, HB⟩ := hrel
    by_cases hlt : k < 256
    · have c0 : decide ((k : Int) < 256) = true := decide_eq_true (by omega)
      have HC := Aside0.mk (tab_get k k hlt)
      go_wp2_with fail
      refine (crc_shifted.calls 9 (k : Int) 8 _ wr (shifted_8 (k : Int))).mono ?_
      rintro e w5 ⟨rfl, ⟨nd, rfl⟩⟩
      obtain ⟨v0, hv0⟩ := HC.out
      have hcell : wr.cell? ⟨g, k, none⟩ = some v0 := (blk_cell BK.out k).trans hv0
      have hfro := blk_frozen BK.out k
      clear hv0
      go_wp2
      go_roundw
      case rel => exact ⟨k + 1, by omega, by go_num, ⟨by (with_reducible repeat (first | refine blk_drewN ?_ _ | refine blk_drew ?_ | refine blk_alloc ?_ _)); exact blk_put BK.out k _ (tab_step k hlt)⟩, ⟨below_set (pw_below_drewN HB.out _) GE.out⟩⟩
      case measure => simp [intOf]; omega
    · have hk2 : k = 256 := by omega
      subst hk2
      go_wp2
      go_ret
      exact ⟨g, rfl, GE.out, BK.out, HB.out⟩

/-- A sum at block g: its table, what its bytes came to, how many they are. -/
def IsSum (B : Nat) (W : World) (g : Nat) (c n : Int) : Prop :=
  ∃ gt, B ≤ g ∧ B ≤ gt ∧ gt ≠ g ∧ W.heap[gt]? = some (.cells (tabAt 256) 192 (0, 0)) ∧ W.heap[g]? = some (.cells #[.pointer (some ⟨gt, 0, none⟩), .int .u32 c, .int .i64 n] 173 (0, 0))

set_option maxHeartbeats 400000 in
set_option maxRecDepth 100000 in
theorem new_calls (w : World) : Calls Tryd.prog 131 #[] w fun e w' => ∃ g : Nat, e = .returned (.pointer (some ⟨g, 0, none⟩)) ∧ IsSum w.heap.size w' g 4294967295 0 ∧ Below w.heap.size w w' := by
  go_enter Tryd.func131, Tryd.ntmps131
  go_wp2_with fail
  refine (table_calls w).mono ?_
  rintro e w1 ⟨gt, rfl, hge, hblk, hb⟩
  have GE := Aside0.mk hge
  have BK := Aside0.mk hblk
  have HB := Aside0.mk hb
  clear hge hblk hb
  go_wp2_with (first | ((with_reducible refine gate_dst (N := 3) rfl ?_); refine box_event rfl (N := 3) rfl (cs := #[.pointer (some ⟨gt, 0, none⟩), .int .u32 4294967295, .int .i64 0]) (t := 173) (by first | (go_simp; done) | (go_simp; rfl)) ?_; intro g hg w2 hblk2 hb2; have GG := Aside0.mk hg; have BK2 := Aside0.mk hblk2; have HB2 := Aside0.mk hb2; clear hg hblk2 hb2))
  go_ret
  have h1 := below_size HB.out
  have hgt := blk_lt BK.out
  have hgg := GG.out
  exact ⟨g, rfl, ⟨gt, by omega, GE.out, by omega, blk_below BK.out HB2.out, BK2.out⟩, below_step HB.out HB2.out⟩

theorem xor8 (a b : Int) : 0 ≤ Go.bits .xor .u8 a b ∧ Go.bits .xor .u8 a b < 256 := by
  have h : ∀ n : Int, 0 ≤ IntKind.u8.wrap n ∧ IntKind.u8.wrap n < 256 := fun n => by rw [IntKind.wrap_u8]; omega
  exact h _

/-- A sum's number behind one byte more. -/
def up1 (c b : Int) : Int := Go.bits .xor .u32 (c / 256) (shN 8 (Go.bits .xor .u8 (c % 256) b))
/-- Behind the first k bytes of s. -/
def upS (c : Int) (s : ByteArray) : Nat → Int
  | 0 => c
  | k + 1 => up1 (upS c s k) (bt s (k : Int))

theorem tab_at (i : Int) (h0 : 0 ≤ i) (h1 : i < 256) : (tabAt 256)[i.toNat]? = some (.int .u32 (shN 8 i)) := by
  unfold tabAt tabL
  rw [List.getElem?_toArray, List.getElem?_append_left (by simp; omega), List.getElem?_map, List.getElem?_range (by omega)]
  simp only [Option.map_some]
  rw [show ((i.toNat : Nat) : Int) = i from by omega]

theorem up1_range (c b : Int) : 0 ≤ up1 c b ∧ up1 c b < 4294967296 := by
  have h : ∀ n : Int, 0 ≤ IntKind.u32.wrap n ∧ IntKind.u32.wrap n < 4294967296 := fun n => by rw [IntKind.wrap_u32]; omega
  exact h _

theorem upS_range (c : Int) (s : ByteArray) (h : 0 ≤ c ∧ c < 4294967296) : ∀ k, 0 ≤ upS c s k ∧ upS c s k < 4294967296
  | 0 => h
  | k + 1 => up1_range _ _

theorem grown_set0 {w w1 : World} {g j : Nat} {v : Value} (h : w.grownBy w1 (some g)) : w.grownBy (w1.setCell ⟨g, j, none⟩ v) (some g) := by
  refine ⟨h.os, h.tape, h.output, ?_, fun k hk hne => ?_⟩
  · simpa using h.size
  · rw [Below.heap_setCell _ _ _ _ (fun e => hne (by rw [e]))]
    exact h.block k hk hne

theorem grown_set {w w1 : World} {g j : Nat} {v : Value} (h : w.grownBy w1 (some g)) : w.grownBy (w1.drew.setCell ⟨g, j, none⟩ v) (some g) := by
  refine ⟨h.os, h.tape, h.output, ?_, fun k hk hne => ?_⟩
  · simpa using h.size
  · rw [Below.heap_setCell _ _ _ _ (fun e => hne (by rw [e]))]
    exact h.block k hk hne

theorem grown_refl (w : World) (row : Option Nat) : w.grownBy w row := by constructor <;> first | rfl | exact Nat.le_refl _ | (intros; rfl) | simp

set_option maxHeartbeats 800000 in
set_option maxRecDepth 100000 in
theorem add_calls (B g : Nat) (c n : Int) (hc : 0 ≤ c ∧ c < 4294967296) (s : ByteArray) (hs : s.size ≤ 140737488351232) (w : World) (hI : IsSum B w g c n) :
    Calls Tryd.prog 132 #[.pointer (some ⟨g, 0, none⟩), .string s] w fun e w' => e = .returned (.pointer (some ⟨g, 0, none⟩)) ∧ IsSum B w' g (upS c s s.size) (wrap64 (n + s.size)) ∧ w.grownBy w' (some g) := by
  obtain ⟨gt, h1, h2, h3, h4, h5⟩ := hI
  have G0 := Aside0.mk h1
  have G1 := Aside0.mk h2
  have G2 := Aside0.mk h3
  have BT := Aside0.mk h4
  have BK := Aside0.mk h5
  clear h1 h2 h3 h4 h5
  go_enter Tryd.func132, Tryd.ntmps132
  go_wp2
  go_loopw [5, 10] (fun v5 v10 wr => ∃ k : Nat, k ≤ s.size ∧ v10 = .int .i64 (k : Int) ∧ Aside0 (wr.heap[gt]? = some (.cells (tabAt 256) 192 (0, 0))) ∧ Aside0 (wr.heap[g]? = some (.cells #[.pointer (some ⟨gt, 0, none⟩), .int .u32 (upS c s k), .int .i64 n] 173 (0, 0))) ∧ Aside0 (w.grownBy wr (some g))) (fun _ v10 _ => s.size - (intOf v10).toNat)
  case atStart => exact ⟨0, Nat.zero_le _, rfl, BT, BK, ⟨grown_refl _ _⟩⟩
  case round =>
    clear BT BK
    obtain ⟨k, hk, rfl, BT, BK, HG⟩ := hrel
    by_cases hlt : k < s.size
    · have c0 : decide ((k : Int) < (s.size : Int)) = true := decide_eq_true (by omega)
      have hr := upS_range c s hc k
      obtain ⟨ck, hck⟩ : ∃ ck, ck = upS c s k := ⟨_, rfl⟩
      rw [← hck] at BK hr
      obtain ⟨b, hb⟩ : ∃ b, b = bt s (k : Int) := ⟨_, rfl⟩
      have hbr : 0 ≤ b ∧ b ≤ 255 := by rw [hb]; exact bt_range s _
      have hx := xor8 (ck % 256) b
      obtain ⟨x, hxe⟩ : ∃ x, x = Go.bits .xor .u8 (ck % 256) b := ⟨_, rfl⟩
      rw [← hxe] at hx
      have c1 : wr.cell? ⟨g, 0, none⟩ = some (.pointer (some ⟨gt, 0, none⟩)) := (blk_cell BK.out 0).trans rfl
      have c2 : wr.cell? ⟨g, 1, none⟩ = some (.int .u32 ck) := (blk_cell BK.out 1).trans rfl
      have c3 : wr.cell? ⟨gt, x.toNat, none⟩ = some (.int .u32 (shN 8 x)) := (blk_cell BT.out x.toNat).trans (tab_at x hx.1 hx.2)
      have f1 := blk_frozen BK.out 1
      have HCK := Aside0.mk hck
      have HX := Aside0.mk hxe
      have hbe : ((s[k]'hlt).toNat : Int) = b := by rw [hb]; exact bt_at s (k : Int) (by rw [Int.toNat_natCast]; exact hlt)
      have hx1 : Go.bits .xor .u8 (ck % 256) b = x := hxe.symm
      have hx2 : Go.bits .xor .u8 (IntKind.u8.wrap ck) b = x := by rw [IntKind.wrap_u8]; exact hxe.symm
      have HB := Aside0.mk hb
      clear hck hxe hb
      go_wp2
      go_region
      have hnew : up1 ck b = Go.bits .xor .u32 (ck / 256) (shN 8 x) := by unfold up1; rw [hx1]
      have hS : upS c s (k + 1) = Go.bits .xor .u32 (ck / 256) (shN 8 x) := by rw [← hnew, HCK.out, HB.out]; rfl
      have HS := Aside0.mk hS
      clear hS hnew
      go_wp2
      go_roundw
      case rel => exact ⟨k + 1, by omega, by go_num, ⟨by refine blk_far ?_ (by exact G2.out) _; (with_reducible repeat (first | refine blk_drewN ?_ _ | refine blk_drew ?_ | refine blk_alloc ?_ _)); exact BT.out⟩, ⟨by rw [HS.out]; refine blk_put (cs := #[.pointer (some ⟨gt, 0, none⟩), .int .u32 ck, .int .i64 n]) ?_ 1 _ rfl; (with_reducible repeat (first | refine blk_drewN ?_ _ | refine blk_drew ?_ | refine blk_alloc ?_ _)); exact BK.out⟩, ⟨grown_set HG.out⟩⟩
      case measure => simp [intOf]; omega
    · have hk2 : k = s.size := by omega
      subst hk2
      have c1 : wr.cell? ⟨g, 2, none⟩ = some (.int .i64 n) := (blk_cell BK.out 2).trans rfl
      have f1 := blk_frozen BK.out 2
      go_wp2
      go_ret
      exact ⟨rfl, ⟨gt, G0.out, G1.out, G2.out, by refine blk_far ?_ (by exact G2.out) _; (with_reducible repeat (first | refine blk_drewN ?_ _ | refine blk_drew ?_ | refine blk_alloc ?_ _)); exact BT.out, by refine blk_put (cs := #[.pointer (some ⟨gt, 0, none⟩), .int .u32 (upS c s s.size), .int .i64 n]) ?_ 2 _ rfl; (with_reducible repeat (first | refine blk_drewN ?_ _ | refine blk_drew ?_ | refine blk_alloc ?_ _)); exact BK.out⟩, grown_set0 HG.out⟩

/-- All bits turned. -/
def notU (c : Int) : Int := Go.bits .xor .u32 4294967295 c

set_option maxHeartbeats 400000 in
set_option maxRecDepth 100000 in
theorem value_calls (B g : Nat) (c n : Int) (hc : 0 ≤ c ∧ c < 4294967296) (w : World) (hI : IsSum B w g c n) :
    Calls Tryd.prog 133 #[.pointer (some ⟨g, 0, none⟩)] w fun e w' => e = .returned (.int .u32 (notU c)) ∧ w = w' := by
  obtain ⟨gt, _, _, _, _, h5⟩ := hI
  have BK := Aside0.mk h5
  clear h5
  have c1 : w.cell? ⟨g, 1, none⟩ = some (.int .u32 c) := (blk_cell BK.out 1).trans rfl
  go_enter Tryd.func133, Tryd.ntmps133
  go_wp2
  go_ret
  exact ⟨rfl, rfl⟩

/-- The CRC of bytes, as the program's text has it. -/
def crcOf (s : ByteArray) : Int := notU (upS 4294967295 s s.size)

theorem below_grown {w w1 : World} {g B : Nat} (h : w.grownBy w1 (some g)) (hg : B ≤ g) (hB : B ≤ w.heap.size) : Below B w w1 :=
  ⟨h.os, h.tape, h.output, h.size, fun k hk => h.block k (by omega) (fun e => by injection e with e; omega)⟩

set_option maxHeartbeats 400000 in
set_option maxRecDepth 100000 in
theorem of_calls (s : ByteArray) (hs : s.size ≤ 140737488351232) (w : World) :
    Calls Tryd.prog 107 #[.string s] w fun e w' => e = .returned (.int .u32 (crcOf s)) ∧ Below w.heap.size w w' := by
  go_enter Tryd.func107, Tryd.ntmps107
  go_wp2_with fail
  refine (new_calls w).mono ?_
  rintro e w1 ⟨g, rfl, hI, hb⟩
  have HB := Aside0.mk hb
  have HI := Aside0.mk hI
  clear hb hI
  go_wp2_with fail
  refine (add_calls w.heap.size g 4294967295 0 (by omega) s hs w1 HI.out).mono ?_
  rintro e w2 ⟨rfl, hI2, hg⟩
  have HI2 := Aside0.mk hI2
  have HG := Aside0.mk hg
  clear hI2 hg
  go_wp2_with fail
  refine (value_calls w.heap.size g _ _ (upS_range 4294967295 s (by omega) s.size) w2 HI2.out).mono ?_
  rintro e w3 ⟨rfl, rfl⟩
  go_wp2
  go_ret
  refine ⟨rfl, ?_⟩
  obtain ⟨_, hge, _⟩ := HI.out
  exact HB.out.trans (below_grown HG.out hge HB.out.size)

def crc_Of.f (a0 : ByteArray) : Option Int := if a0.size ≤ 140737488351232 then some (crcOf a0) else none
theorem crc_Of.calls (a0 : ByteArray) (r : Int) (w : World) (h : crc_Of.f a0 = some r) :
    Calls Tryd.prog 107 #[.string a0] w fun e w' => e = .returned (.int .u32 r) ∧ Below w.heap.size w w' := by
  unfold crc_Of.f at h
  by_cases hc : a0.size ≤ 140737488351232
  · rw [if_pos hc] at h
    obtain rfl := Option.some.inj h
    exact of_calls a0 hc w
  · rw [if_neg hc] at h
    cases h


/-! ### armor_sum: function 68 -/
def armor_sum.f (a0 : ByteArray) : Option (ByteArray) := (crc_Of.f a0).bind fun t108 => ((armor_Signs.f (strOfNums (([(t108 / 65536) % 256, (t108 / 256) % 256, (t108) % 256] : List Int)))).bind fun t112 => (if 1 + t112.size ≤ 9223372036854775807 then (some ((⟨#[61]⟩ : ByteArray) ++ t112)) else (none)))
set_option maxHeartbeats 8000000 in
set_option maxRecDepth 100000 in
theorem armor_sum.calls (a0 : ByteArray) (r : ByteArray) (w : World) (h : armor_sum.f a0 = some r) :
    Calls Tryd.prog 68 #[.string a0] w fun e w' => e = .returned (.string r) ∧ Below w.heap.size w w' := by
  have HB := Aside0.mk (Below.refl w.heap.size w)
  have H : ((crc_Of.f a0).bind fun t108 => ((armor_Signs.f (strOfNums (([(t108 / 65536) % 256, (t108 / 256) % 256, (t108) % 256] : List Int)))).bind fun t112 => (if 1 + t112.size ≤ 9223372036854775807 then (some ((⟨#[61]⟩ : ByteArray) ++ t112)) else (none)))) = some r := h
  clear h
  replace H := Option.bind_eq_some_iff.mp H
  obtain ⟨t108, A20, H⟩ := H
  replace H : ((armor_Signs.f (strOfNums (([(t108 / 65536) % 256, (t108 / 256) % 256, (t108) % 256] : List Int)))).bind fun t112 => (if 1 + t112.size ≤ 9223372036854775807 then (some ((⟨#[61]⟩ : ByteArray) ++ t112)) else (none))) = some r := H
  have A2 := Aside0.mk A20
  clear A20
  obtain ⟨y109, hy109⟩ : ∃ y_ : List Int, y_ = (([(t108 / 65536) % 256, (t108 / 256) % 256, (t108) % 256] : List Int)) := ⟨_, rfl⟩
  replace H : ((armor_Signs.f (strOfNums y109)).bind fun t112 => (if 1 + t112.size ≤ 9223372036854775807 then (some ((⟨#[61]⟩ : ByteArray) ++ t112)) else (none))) = some r := by first | (rw [hy109]; with_reducible exact H) | (have H2_ := (Option.bind_some _ _).symm.trans H; rw [hy109]; with_reducible exact H2_) | (have H2_ := (Option.bind_some _ _).symm.trans H; with_reducible exact H2_) | with_reducible exact H | (rw [hy109]; exact H) | exact H
  have Ny109 := Aside0.mk hy109
  clear hy109
  replace H := Option.bind_eq_some_iff.mp H
  obtain ⟨t112, A30, H⟩ := H
  replace H : (if 1 + t112.size ≤ 9223372036854775807 then (some ((⟨#[61]⟩ : ByteArray) ++ t112)) else (none)) = some r := H
  have A3 := Aside0.mk A30
  clear A30
  by_cases c4 : 1 + t112.size ≤ 9223372036854775807
  · rw [if_pos c4] at H
    have c4b0 := eq_true c4
    have c4b1 : decide (1 + t112.size ≤ 9223372036854775807) = true := decide_eq_true c4
    try have c4b2 : (9223372036854775807 < 1 + t112.size) = False := eq_false (Nat.not_lt.2 c4)
    obtain rfl := Option.some.inj H
    simp only [Option.some.injEq, Prod.mk.injEq] at H
    obtain ⟨rfl⟩ := H
    go_enter Tryd.func68, Tryd.ntmps68
    go_wp2_with (first | ((with_reducible refine gate_callee (f := 107) rfl ?_); refine goesL_ (some 5) rfl rfl Tryd.func107 (by kernel_rfl) rfl #[.string a0] rfl (by (try simp only [List.map_toArray, List.map_cons, List.map_nil]); first | done | rfl | (simp only [List.length_drop, List.length_take]; rfl)) ?_; (with_reducible refine (crc_Of.calls a0 t108 _ A2.out).mono ?_); rintro e w5 ⟨rfl, hb⟩; refine ⟨_, rfl, ?_⟩; have n0_ := Aside0.mk (below_step (by repeat (first | (with_reducible first | exact HB.out | apply below_alloc | apply pw_below_drewN | apply below_drew1) | exact HB.out)) hb); clear HB; have HB := n0_; clear n0_; (try clear hb); (try clear hb2); (try clear hk); (try clear hi)) | ((with_reducible refine gate_dst (N := 14) rfl ?_); refine Kd.R_lit (Kd.int .u8) _ 5 ?hg (N := 14) ?hd (xs := ([(t108 / 65536) % 256, (t108 / 256) % 256, (t108) % 256] : List Int)) (inner := [.int .u8 ((t108 / 65536) % 256), .int .u8 ((t108 / 256) % 256), .int .u8 ((t108) % 256)]) (ok := fun _ => True) (okp := fun _ => True) ?hr ?hp (fun _ hk => hk) trivial (Below.refl _ _) (Nat.le_refl _) (by simp) ?_; (case hd => rfl); (case hg => rfl); (case hr => first | (go_simp; done) | (go_simp; rfl)); (case hp => exact (Reps.one (show Kd.M (Kd.int .u8) _ _ _ ((t108 / 65536) % 256) [.int .u8 ((t108 / 65536) % 256)] from rfl) (Reps.one (show Kd.M (Kd.int .u8) _ _ _ ((t108 / 256) % 256) [.int .u8 ((t108 / 256) % 256)] from rfl) (Reps.one (show Kd.M (Kd.int .u8) _ _ _ ((t108) % 256) [.int .u8 ((t108) % 256)] from rfl) (Reps.none _ _))))); intro v110 w6 ho7 hb hg_ hnew_; clear hg_ hnew_; (first | rw [← Ny109.out] at ho7 | (simp only [Int.reduceToNat] at ho7; rw [← Ny109.out] at ho7)); have n0_ := Aside0.mk (Kd.R_lower ho7 (below_size (by repeat (first | (with_reducible first | exact HB.out | apply below_alloc | apply pw_below_drewN | apply below_drew1) | exact HB.out)))); have n1_ := Aside0.mk (below_step (by repeat (first | (with_reducible first | exact HB.out | apply below_alloc | apply pw_below_drewN | apply below_drew1) | exact HB.out)) hb); clear HB; have HO111 := n0_; have HB := n1_; clear n0_ n1_; clear hb ho7; have hcv8 := own_string (P := Tryd.prog) Tryd.underlying84 Tryd.underlying5 Tryd.underlying9 (Kd.own_of_R HO111.out)) | ((with_reducible refine gate_callee (f := 23) rfl ?_); refine goesL_ (some 16) rfl rfl Tryd.func23 (by kernel_rfl) rfl #[.string (strOfNums y109)] rfl (by (try simp only [List.map_toArray, List.map_cons, List.map_nil]); first | done | rfl | (simp only [List.length_drop, List.length_take]; rfl)) ?_; (with_reducible refine (armor_Signs.calls (strOfNums y109) t112 _ A3.out).mono ?_); rintro e w9 ⟨rfl, hb⟩; refine ⟨_, rfl, ?_⟩; have n0_ := Aside0.mk (Kd.R_below (by (with_reducible repeat (first | apply Kd.R_alloc | apply Kd.R_drewN | apply Kd.R_drew)); exact HO111.out) hb); have n1_ := Aside0.mk (below_step (by repeat (first | (with_reducible first | exact HB.out | apply below_alloc | apply pw_below_drewN | apply below_drew1) | exact HB.out)) hb); clear HO111; clear HB; have HO111 := n0_; have HB := n1_; clear n0_ n1_; (try clear hb); (try clear hb2); (try clear hk); (try clear hi)))
    go_ret
    exact ⟨by first | rfl | (simp [errW_none, errW_some] <;> rfl) | (simp [*, errW_none, errW_some] <;> rfl), by repeat (first | (with_reducible first | exact HB.out | apply below_alloc | apply pw_below_drewN | apply below_drew1) | exact HB.out)⟩
  · rw [if_neg c4] at H
    exact absurd H (by simp)

/-! ### armor_Encode: function 27 -/
-- rounds: no making: yes
-- uses: montage/armor.right montage/armor.wide montage/armor.sum montage/armor.Signs montage/armor.Bytes
/-- Signs in lines of W. -/
def linesA (W : Nat) : Nat → List UInt8 → List UInt8
  | 0, _ => []
  | n + 1, l => if l = [] then [] else l.take W ++ [10] ++ linesA W n (l.drop W)
theorem linesA_fuel (W : Nat) (hW : 1 ≤ W) : ∀ (n : Nat) (l : List UInt8), l.length ≤ n → linesA W n l = linesA W l.length l
  | 0, l, h => by
    obtain rfl : l = [] := List.length_eq_zero_iff.1 (by omega)
    rfl
  | n + 1, l, h => by
    by_cases hl : l = []
    · subst hl; rfl
    · have hp : 0 < l.length := List.length_pos_iff.2 hl
      obtain ⟨m, hm⟩ : ∃ m, l.length = m + 1 := ⟨l.length - 1, by omega⟩
      rw [hm, linesA, linesA, if_neg hl, if_neg hl, linesA_fuel W hW n (l.drop W) (by rw [List.length_drop]; omega), linesA_fuel W hW m (l.drop W) (by rw [List.length_drop]; omega)]
theorem linesA_step (W : Nat) (hW : 1 ≤ W) (l : List UInt8) (h : l ≠ []) : linesA W l.length l = l.take W ++ [10] ++ linesA W (l.drop W).length (l.drop W) := by
  have hp : 0 < l.length := List.length_pos_iff.2 h
  obtain ⟨m, hm⟩ : ∃ m, l.length = m + 1 := ⟨l.length - 1, by omega⟩
  rw [hm, linesA, if_neg h, linesA_fuel W hW m (l.drop W) (by rw [List.length_drop]; omega)]
theorem linesA_len (W : Nat) : ∀ (n : Nat) (l : List UInt8), (linesA W n l).length ≤ l.length + n
  | 0, l => by simp [linesA]
  | n + 1, l => by
    rw [linesA]
    by_cases hl : l = []
    · rw [if_pos hl]; simp
    · rw [if_neg hl, List.length_append, List.length_append, List.length_take]
      have := linesA_len W n (l.drop W)
      rw [List.length_drop] at this
      simp only [List.length_singleton]
      omega
def begB : ByteArray := ⟨#[45, 45, 45, 45, 45, 66, 69, 71, 73, 78, 32]⟩
def endB : ByteArray := ⟨#[45, 45, 45, 45, 45, 69, 78, 68, 32]⟩
def tailB : ByteArray := ⟨#[45, 45, 45, 45, 45]⟩
def nlB : ByteArray := ⟨#[10]⟩
def headA (nm : ByteArray) : ByteArray := begB ++ nm ++ tailB ++ nlB
def footA (nm sm : ByteArray) : ByteArray := sm ++ nlB ++ endB ++ nm ++ tailB ++ nlB
def encA (nm sm sg : ByteArray) (W : Nat) : ByteArray := ⟨((headA nm).data.toList ++ linesA W sg.data.toList.length sg.data.toList ++ (footA nm sm).data.toList).toArray⟩
theorem wide_nat (z : Int) (h : armor_wide.f z = some true) : ∃ W : Nat, z = W ∧ 4 ≤ W ∧ W ≤ 76 := by
  unfold armor_wide.f at h
  by_cases h1 : z ≥ 4
  · rw [if_pos h1] at h
    by_cases h2 : z ≤ 76
    · exact ⟨z.toNat, by omega, by omega, by omega⟩
    · rw [if_neg h2] at h; cases h
  · rw [if_neg h1] at h; cases h
set_option maxHeartbeats 3200000 in
set_option maxRecDepth 100000 in
theorem encode_walk (a0 a1 : ByteArray) (W : Nat) (sg sm : ByteArray) (w : World) (hs : a0.size ≤ 4194304) (hn : a1.size ≤ 30) (hW : 4 ≤ W) (hW2 : W ≤ 76) (hr : armor_right.f a1 = some true) (hw : armor_wide.f (W : Int) = some true) (hg : armor_Signs.f a0 = some sg) (hm : armor_sum.f a0 = some sm) (hgs : sg.size ≤ 1099511627776) (hms : sm.size ≤ 1048576) :
    Calls Tryd.prog 27 #[.string a0, .string a1, .int .i64 (W : Int)] w fun e w' => e = .returned (.tuple #[.string (encA a1 sm sg W), .int .i64 0]) ∧ Below w.heap.size w w' := by
  have K1 := fun W => armor_right.calls a1 true W hr
  have K2 := fun w1 => armor_wide.calls (W : Int) true w1 hw
  have K3 := Aside0.mk (fun w1 => armor_Signs.calls a0 sg w1 hg)
  have K4 := Aside0.mk (fun w1 => armor_sum.calls a0 sm w1 hm)
  have d0 : decide ((a0.size : Int) > 4194304) = false := decide_eq_false (by omega)
  have d1 : decide (4194304 < (a0.size : Int)) = false := decide_eq_false (by omega)
  clear hr hw hg hm
  go_enter Tryd.func27, Tryd.ntmps27
  go_wp2_with fail
  refine Calls.mono (K1 _) ?_
  rintro e w1 ⟨rfl, b1⟩
  clear K1
  go_wp2_with fail
  refine Calls.mono (K2 _) ?_
  rintro e w2 ⟨rfl, ⟨nd, hw2⟩⟩
  have B2 : Aside0 (Below w.heap.size w w2) := ⟨by rw [hw2]; exact pw_below_drewN b1 nd⟩
  clear K2 b1 hw2
  have hB2 := B2.out.size
  have I2 := XGlob.isB_new 86 5 w2 w.heap.size hB2
  have hh : (headA a1).size ≤ 47 := by
    unfold headA begB tailB nlB
    simp only [ByteArray.size_append]
    show 11 + a1.size + 5 + 1 ≤ 47
    omega
  have K5 := XGlob.writeString w.heap.size w2.heap.size [] (headA a1) _ I2 (by simp; omega) (by simp; omega)
  have B3 := Aside0.mk (below_step B2.out (below_alloc (Below.refl w2.heap.size w2) (Obj.cells #[.pointer none, .slice none 0 0] 86)))
  have s1 : 11 + a1.size ≤ 9223372036854775807 := by omega
  have s2 : 11 + a1.size + 5 ≤ 9223372036854775807 := by omega
  have s3 : 11 + a1.size + 5 + 1 ≤ 9223372036854775807 := by omega
  clear I2
  go_wp2_with fail
  refine Calls.mono K5 ?_
  rintro e w3 ⟨rfl, i3, b3⟩
  clear K5 s1 s2 s3
  have I3 : Aside0 (Lib.IsBuilder 86 5 w.heap.size w2.heap.size (Lib.byteCells ((headA a1).data.toList ++ [])) w3) := ⟨by
    rw [XGlob.strCells_bytes, List.nil_append] at i3
    rw [List.append_nil]
    exact i3⟩
  have B4 := Aside0.mk (B3.out.trans b3)
  clear i3 b3 B3
  go_wp2_with fail
  refine Calls.mono (K3.out _) ?_
  rintro e w4 ⟨rfl, b4⟩
  have I4 := Aside0.mk (XGlob.isB_below I3.out b4)
  have B5 := Aside0.mk (below_step B4.out b4)
  clear b4 I3 B4
  go_wp2
  go_loopg [9] sg.size (fun gg v9 W4 => ∃ (t : ByteArray) (dn : List UInt8), v9 = .string t ∧ t.size ≤ gg ∧ t.size ≤ sg.size ∧ Aside0 (dn ++ linesA W t.data.toList.length t.data.toList = linesA W sg.data.toList.length sg.data.toList) ∧ Aside0 (Lib.IsBuilder 86 5 w.heap.size w2.heap.size (Lib.byteCells ((headA a1).data.toList ++ dn)) W4) ∧ Aside0 (Below w.heap.size w W4))
  case atStart => exact ⟨sg, [], rfl, Nat.le_refl _, Nat.le_refl _, ⟨rfl⟩, I4, B5⟩
  case round =>
    clear I4 B5 d0 d1
    obtain ⟨t, dn, rfl, hgg, hle, HD, HI, HB⟩ := hrel
    have HL : Aside0 (((headA a1).data.toList ++ dn).length ≤ 47 + 2 * sg.size) := ⟨by
      have h7 := congrArg List.length HD.out
      have h8 := linesA_len W sg.data.toList.length sg.data.toList
      have h9 : sg.data.toList.length = sg.size := by rw [Array.length_toList]; rfl
      have h10 : (headA a1).data.toList.length = (headA a1).size := by rw [Array.length_toList]; rfl
      rw [List.length_append] at h7
      rw [List.length_append, h10]
      rw [h9] at h8
      rw [h9] at h7
      omega⟩
    by_cases h0 : t.size = 0
    · have e1 := toList_eqB t h0
      have e2 : t.toList.isEmpty = true := by simpa using e1
      have ht : t.data.toList = [] := by rw [← ByteArray.toList_eq]; exact e1
      have hdn : dn = linesA W sg.data.toList.length sg.data.toList := by
        have := HD.out
        rw [ht] at this
        simpa [linesA] using this
      subst hdn
      clear HD ht
      go_wp2_with fail
      refine Calls.mono (K4.out _) ?_
      rintro e w5 ⟨rfl, b5⟩
      have I5 := XGlob.isB_below HI.out b5
      have B6 := Aside0.mk (below_step HB.out b5)
      have hf : (footA a1 sm).size ≤ 1048576 + 46 := by
        unfold footA endB tailB nlB
        simp only [ByteArray.size_append]
        show sm.size + 1 + 9 + a1.size + 5 + 1 ≤ _
        omega
      have K6 := XGlob.writeString w.heap.size w2.heap.size _ (footA a1 sm) w5 I5 (by have := HL.out; rw [Lib.byteCells_length]; omega) B6.out.size
      have s1 : sm.size + 1 ≤ 9223372036854775807 := by omega
      have s2 : sm.size + 1 + 9 ≤ 9223372036854775807 := by omega
      have s3 : sm.size + 1 + 9 + a1.size ≤ 9223372036854775807 := by omega
      have s4 : sm.size + 1 + 9 + a1.size + 5 ≤ 9223372036854775807 := by omega
      have s5 : sm.size + 1 + 9 + a1.size + 5 + 1 ≤ 9223372036854775807 := by omega
      clear b5 I5 hf
      go_wp2_with fail
      refine Calls.mono K6 ?_
      rintro e w6 ⟨rfl, i6, b6⟩
      clear K6 s1 s2 s3 s4 s5
      have I6 : Lib.IsBuilder 86 5 w.heap.size w2.heap.size (Lib.byteCells ((headA a1).data.toList ++ linesA W sg.data.toList.length sg.data.toList ++ (footA a1 sm).data.toList)) w6 := by
        rw [XGlob.strCells_bytes, XGlob.byteCells_append] at i6
        exact i6
      have B7 := Aside0.mk (B6.out.trans b6)
      have K7 := XGlob.builderString w.heap.size w2.heap.size _ w6 I6 B7.out.size
      rw [show (⟨((headA a1).data.toList ++ linesA W sg.data.toList.length sg.data.toList ++ (footA a1 sm).data.toList).toArray⟩ : ByteArray) = encA a1 sm sg W from rfl] at K7
      clear i6 b6 I6
      go_wp2_with fail
      refine Calls.mono K7 ?_
      rintro e w7 ⟨rfl, b7⟩
      clear K7
      go_wp2
      go_ret2
      exact ⟨rfl, B7.out.trans b7⟩
    · have e1 := toList_eqA t (by omega)
      have e2 : t.toList.isEmpty = false := by simpa using e1
      obtain ⟨m, hm⟩ : ∃ m : Nat, m = min W t.size := ⟨_, rfl⟩
      have hmn : (if (t.size : Int) < (W : Int) then (t.size : Int) else (W : Int)) = (m : Int) := by split <;> omega
      have hmn2 : (if t.size < W then (t.size : Int) else (W : Int)) = (m : Int) := by split <;> omega
      have hm1 : (m : Int) ≤ (t.size : Int) := by omega
      have hm0 : 0 ≤ (m : Int) := by omega
      have hex : (t.extract 0 m).size = m := by rw [ByteArray.size_extract]; omega
      have s1 : (t.extract 0 m).size + 1 ≤ 9223372036854775807 := by omega
      have s2 : m + 1 ≤ 9223372036854775807 := by omega
      have K6 := XGlob.writeString w.heap.size w2.heap.size _ (t.extract 0 m ++ nlB) wr HI.out (by have := HL.out; rw [Lib.byteCells_length, ByteArray.size_append, hex]; show _ + (m + 1) ≤ _; omega) HB.out.size
      have HM := Aside0.mk hm
      have HX := Aside0.mk hex
      clear hm hex
      go_wp2_with fail
      refine Calls.mono K6 ?_
      rintro e w5 ⟨rfl, i5, b5⟩
      clear K6 s1 s2
      have I5 : Aside0 (Lib.IsBuilder 86 5 w.heap.size w2.heap.size (Lib.byteCells ((headA a1).data.toList ++ (dn ++ (t.data.toList.take m ++ [10])))) w5) := ⟨by
        rw [XGlob.strCells_bytes, XGlob.byteCells_append] at i5
        rw [← List.append_assoc]
        have e : (t.extract 0 m ++ nlB).data.toList = t.data.toList.take m ++ [10] := by
          rw [ByteArray.data_append, Array.toList_append, ByteArray.data_extract, Array.toList_extract, List.extract_eq_take_drop]
          simp [nlB]
        rw [e] at i5
        exact i5⟩
      have B6 := Aside0.mk (HB.out.trans b5)
      clear i5 b5
      go_wp2
      go_roundg (t.size - m)
      case measure => have := HM.out; omega
      case rel =>
        have hmm := HM.out
        have htl : t.data.toList.length = t.size := by rw [Array.length_toList]; rfl
        refine ⟨t.extract m t.size, dn ++ (t.data.toList.take m ++ [10]), rfl, by simp, by simp; omega, ⟨?_⟩, I5, B6⟩
        rw [XGlob.extract_list, ← HD.out, List.append_assoc, linesA_step W (by omega) t.data.toList (by intro e; rw [e] at htl; simp at htl; omega)]
        by_cases hWt : W ≤ t.size
        · rw [show m = W by omega]
        · rw [show m = t.size by omega, List.take_of_length_le (by omega), List.take_of_length_le (by omega), List.drop_eq_nil_of_le (by omega), List.drop_eq_nil_of_le (by omega)]
set_option maxHeartbeats 3200000 in
set_option maxRecDepth 100000 in
theorem encode_name (a0 a1 : ByteArray) (a2 : Int) (w : World) (hr : armor_right.f a1 = some false) :
    Calls Tryd.prog 27 #[.string a0, .string a1, .int .i64 a2] w fun e w' => e = .returned (.tuple #[.string ⟨#[]⟩, .int .i64 1]) ∧ Below w.heap.size w w' := by
  have K1 := fun W => armor_right.calls a1 false W hr
  clear hr
  go_enter Tryd.func27, Tryd.ntmps27
  go_wp2_with fail
  refine Calls.mono (K1 _) ?_
  rintro e w1 ⟨rfl, b1⟩
  have B1 := Aside0.mk b1
  clear K1 b1
  go_wp2
  go_ret2
  exact ⟨rfl, B1.out⟩
set_option maxHeartbeats 3200000 in
set_option maxRecDepth 100000 in
theorem encode_wide (a0 a1 : ByteArray) (a2 : Int) (w : World) (hr : armor_right.f a1 = some true) (hw : armor_wide.f a2 = some false) :
    Calls Tryd.prog 27 #[.string a0, .string a1, .int .i64 a2] w fun e w' => e = .returned (.tuple #[.string ⟨#[]⟩, .int .i64 1]) ∧ Below w.heap.size w w' := by
  have K1 := fun W => armor_right.calls a1 true W hr
  have K2 := fun w1 => armor_wide.calls a2 false w1 hw
  clear hr hw
  go_enter Tryd.func27, Tryd.ntmps27
  go_wp2_with fail
  refine Calls.mono (K1 _) ?_
  rintro e w1 ⟨rfl, b1⟩
  clear K1
  go_wp2_with fail
  refine Calls.mono (K2 _) ?_
  rintro e w2 ⟨rfl, ⟨nd, rfl⟩⟩
  have B2 := Aside0.mk (pw_below_drewN b1 nd)
  clear K2 b1
  go_wp2
  go_ret2
  exact ⟨rfl, B2.out⟩
set_option maxHeartbeats 3200000 in
set_option maxRecDepth 100000 in
theorem encode_big (a0 a1 : ByteArray) (a2 : Int) (w : World) (hs : ¬ a0.size ≤ 4194304) (hr : armor_right.f a1 = some true) (hw : armor_wide.f a2 = some true) :
    Calls Tryd.prog 27 #[.string a0, .string a1, .int .i64 a2] w fun e w' => e = .returned (.tuple #[.string ⟨#[]⟩, .int .i64 7]) ∧ Below w.heap.size w w' := by
  have K1 := fun W => armor_right.calls a1 true W hr
  have K2 := fun w1 => armor_wide.calls a2 true w1 hw
  have d0 : decide ((a0.size : Int) > 4194304) = true := decide_eq_true (by omega)
  have d1 : decide (4194304 < (a0.size : Int)) = true := decide_eq_true (by omega)
  clear hr hw hs
  go_enter Tryd.func27, Tryd.ntmps27
  go_wp2_with fail
  refine Calls.mono (K1 _) ?_
  rintro e w1 ⟨rfl, b1⟩
  clear K1
  go_wp2_with fail
  refine Calls.mono (K2 _) ?_
  rintro e w2 ⟨rfl, ⟨nd, rfl⟩⟩
  have B2 := Aside0.mk (pw_below_drewN b1 nd)
  clear K2 b1
  go_wp2
  go_ret2
  exact ⟨rfl, B2.out⟩
def armor_Encode.f (a0 a1 : ByteArray) (a2 : Int) : Option (ByteArray × Int) := (armor_right.f a1).bind fun b => if b = true then ((armor_wide.f a2).bind fun b2 => if b2 = true then (if a0.size ≤ 4194304 then ((armor_Signs.f a0).bind fun sg => ((armor_sum.f a0).bind fun sm => if a1.size ≤ 30 ∧ sg.size ≤ 1099511627776 ∧ sm.size ≤ 1048576 then some (encA a1 sm sg a2.toNat, 0) else none)) else some (⟨#[]⟩, 7)) else some (⟨#[]⟩, 1)) else some (⟨#[]⟩, 1)
theorem armor_Encode.calls (a0 a1 : ByteArray) (a2 : Int) (r1 : ByteArray) (r2 : Int) (w : World) (h : armor_Encode.f a0 a1 a2 = some (r1, r2)) :
    Calls Tryd.prog 27 #[.string a0, .string a1, .int .i64 a2] w fun e w' => e = .returned (.tuple #[.string r1, .int .i64 r2]) ∧ Below w.heap.size w w' := by
  unfold armor_Encode.f at h
  obtain ⟨b, hr, h⟩ := Option.bind_eq_some_iff.1 h
  cases b with
  | false =>
    rw [if_neg (by decide)] at h
    have h2 := Option.some.inj h
    simp only [Prod.mk.injEq] at h2
    obtain ⟨rfl, rfl⟩ := h2
    exact encode_name a0 a1 a2 w hr
  | true =>
    rw [if_pos rfl] at h
    obtain ⟨b2, hw, h⟩ := Option.bind_eq_some_iff.1 h
    cases b2 with
    | false =>
      rw [if_neg (by decide)] at h
      have h2 := Option.some.inj h
      simp only [Prod.mk.injEq] at h2
      obtain ⟨rfl, rfl⟩ := h2
      exact encode_wide a0 a1 a2 w hr hw
    | true =>
      rw [if_pos rfl] at h
      by_cases hs : a0.size ≤ 4194304
      · rw [if_pos hs] at h
        obtain ⟨sg, hg, h⟩ := Option.bind_eq_some_iff.1 h
        obtain ⟨sm, hm, h⟩ := Option.bind_eq_some_iff.1 h
        by_cases hc : a1.size ≤ 30 ∧ sg.size ≤ 1099511627776 ∧ sm.size ≤ 1048576
        · rw [if_pos hc] at h
          have h2 := Option.some.inj h
          simp only [Prod.mk.injEq] at h2
          obtain ⟨rfl, rfl⟩ := h2
          obtain ⟨W, rfl, hW, hW2⟩ := wide_nat a2 hw
          rw [Int.toNat_natCast]
          exact encode_walk a0 a1 W sg sm w hs hc.1 hW hW2 hr hw hg hm hc.2.1 hc.2.2
        · rw [if_neg hc] at h
          cases h
      · rw [if_neg hs] at h
        have h2 := Option.some.inj h
        simp only [Prod.mk.injEq] at h2
        obtain ⟨rfl, rfl⟩ := h2
        exact encode_big a0 a1 a2 w hs hr hw


/-! ### strings_CutSuffix: function 71 -/
-- rounds: no making: no
-- uses:
def strings_CutSuffix.f (a0 a1 : ByteArray) : Option (ByteArray × Bool) := if a0.size ≤ 9223372036854775807 then some (⟨(Lib.trimSuffix a0.data.toList a1.data.toList).toArray⟩, Lib.hasSuffix a0.data.toList a1.data.toList) else none
theorem strings_CutSuffix.calls (a0 a1 : ByteArray) (r1 : ByteArray) (r2 : Bool) (w : World) (h : strings_CutSuffix.f a0 a1 = some (r1, r2)) :
    Calls Tryd.prog 71 #[.string a0, .string a1] w fun e w' => e = .returned (.tuple #[.string r1, .bool r2]) ∧ Drawn0 w w' := by
  unfold strings_CutSuffix.f at h
  by_cases hc : a0.size ≤ 9223372036854775807
  · rw [if_pos hc] at h
    have h2 := Option.some.inj h
    simp only [Prod.mk.injEq] at h2
    obtain ⟨rfl, rfl⟩ := h2
    refine (Tryd.strings_CutSuffix a0 a1 w hc).mono ?_
    rintro e w' ⟨rfl, rfl⟩
    exact ⟨rfl, Drawn0.refl _⟩
  · rw [if_neg hc] at h
    cases h


/-! ### strings_Split: function 72 -/
-- rounds: no making: yes
-- uses:
def strings_Split.f (a0 a1 : ByteArray) : Option (List ByteArray) := if a1.size = 1 ∧ a0.size < 4294967281 then some (Lib.splitB a1 0 (Lib.countB a0 a1) a0) else none
theorem strings_Split.calls (a0 a1 : ByteArray) (r : List ByteArray) (w : World) (h : strings_Split.f a0 a1 = some r) :
    Calls Tryd.prog 72 #[.string a0, .string a1] w fun e w' => ∃ v0_ : Value, e = .returned (v0_) ∧ Kd.R Kd.string 9 w' w.heap.size (fun _ => True) v0_ r ∧ Below w.heap.size w w' := by
  unfold strings_Split.f at h
  by_cases hc : a1.size = 1 ∧ a0.size < 4294967281
  · rw [if_pos hc] at h
    obtain rfl := Option.some.inj h
    obtain ⟨c, rfl⟩ := Lib.one_byte a1 hc.1
    have hl := XGlob.splitB_len a0 c
    have hm := XGlob.splitB_le a0 c
    refine (XGlob.split_one a0 c w hc.2).mono ?_
    rintro e w' ⟨rfl, rfl⟩
    rw [← hl]
    exact ⟨_, rfl, XGlob.split_row w _ (by unfold maxLen; omega), below_alloc (Below.refl _ _) _⟩
  · rw [if_neg hc] at h
    cases h


/-! ### strings_CutPrefix: function 76 -/
-- rounds: no making: no
-- uses:
def strings_CutPrefix.f (a0 a1 : ByteArray) : Option (ByteArray × Bool) := if a0.size ≤ 9223372036854775807 then some (⟨(Lib.trimPrefix a0.data.toList a1.data.toList).toArray⟩, Lib.hasPrefix a0.data.toList a1.data.toList) else none
theorem strings_CutPrefix.calls (a0 a1 : ByteArray) (r1 : ByteArray) (r2 : Bool) (w : World) (h : strings_CutPrefix.f a0 a1 = some (r1, r2)) :
    Calls Tryd.prog 76 #[.string a0, .string a1] w fun e w' => e = .returned (.tuple #[.string r1, .bool r2]) ∧ Drawn0 w w' := by
  unfold strings_CutPrefix.f at h
  by_cases hc : a0.size ≤ 9223372036854775807
  · rw [if_pos hc] at h
    have h2 := Option.some.inj h
    simp only [Prod.mk.injEq] at h2
    obtain ⟨rfl, rfl⟩ := h2
    refine (Tryd.strings_CutPrefix a0 a1 w).mono ?_
    rintro e w' ⟨rfl, rfl⟩
    exact ⟨rfl, Drawn0.refl _⟩
  · rw [if_neg hc] at h
    cases h


/-! ### armor_cut: function 73 -/
def armor_cut.f (a0 : ByteArray) (a1 : ByteArray) (a2 : ByteArray) : Option (ByteArray × Bool) := (strings_CutPrefix.f a0 a1).bind fun bt113 => ((strings_CutSuffix.f bt113.1 a2).bind fun bt115 => (if bt113.2 = true then (some (bt115.1, bt115.2)) else (some (bt115.1, false))))
set_option maxHeartbeats 8000000 in
set_option maxRecDepth 100000 in
theorem armor_cut.calls (a0 : ByteArray) (a1 : ByteArray) (a2 : ByteArray) (r1 : ByteArray) (r2 : Bool) (w : World) (h : armor_cut.f a0 a1 a2 = some (r1, r2)) :
    Calls Tryd.prog 73 #[.string a0, .string a1, .string a2] w fun e w' => e = .returned (.tuple #[.string r1, .bool r2]) ∧ Drawn0 w w' := by
  have H : ((strings_CutPrefix.f a0 a1).bind fun bt113 => ((strings_CutSuffix.f bt113.1 a2).bind fun bt115 => (if bt113.2 = true then (some (bt115.1, bt115.2)) else (some (bt115.1, false))))) = some (r1, r2) := h
  clear h
  replace H := Option.bind_eq_some_iff.mp H
  obtain ⟨⟨t113, t114⟩, A40, H⟩ := H
  replace H : ((strings_CutSuffix.f t113 a2).bind fun bt115 => (if t114 = true then (some (bt115.1, bt115.2)) else (some (bt115.1, false)))) = some (r1, r2) := H
  have A4 := Aside0.mk A40
  clear A40
  replace H := Option.bind_eq_some_iff.mp H
  obtain ⟨⟨t115, t116⟩, A50, H⟩ := H
  replace H : (if t114 = true then (some (t115, t116)) else (some (t115, false))) = some (r1, r2) := H
  have A5 := Aside0.mk A50
  clear A50
  by_cases c6 : t114 = true
  · subst c6
    have H1 : (some (t115, t116)) = some (r1, r2) := by rw [if_pos rfl] at H; exact H
    clear H
    have H := H1
    clear H1
    simp only [Option.some.injEq, Prod.mk.injEq] at H
    obtain ⟨rfl, rfl⟩ := H
    go_enter Tryd.func73, Tryd.ntmps73
    go_wp2_with (first | ((with_reducible refine gate_callee (f := 76) rfl ?_); refine goesL_ (some 13) rfl rfl Tryd.func76 (by kernel_rfl) rfl #[.string a0, .string a1] rfl (by (try simp only [List.map_toArray, List.map_cons, List.map_nil]); first | done | rfl | (simp only [List.length_drop, List.length_take]; rfl)) ?_; (with_reducible refine (strings_CutPrefix.calls a0 a1 t113 true _ A4.out).mono ?_); rintro e w' ⟨rfl, ⟨nd, rfl⟩⟩; refine ⟨_, rfl, ?_⟩) | ((with_reducible refine gate_callee (f := 71) rfl ?_); refine goesL_ (some 19) rfl rfl Tryd.func71 (by kernel_rfl) rfl #[.string t113, .string a2] rfl (by (try simp only [List.map_toArray, List.map_cons, List.map_nil]); first | done | rfl | (simp only [List.length_drop, List.length_take]; rfl)) ?_; (with_reducible refine (strings_CutSuffix.calls t113 a2 t115 t116 _ A5.out).mono ?_); rintro e w' ⟨rfl, ⟨nd, rfl⟩⟩; refine ⟨_, rfl, ?_⟩))
    go_ret2
    exact ⟨by first | rfl | (simp; done) | (simp [*]; done), by repeat (first | exact Drawn0.refl _ | apply Drawn0.step)⟩
  · replace c6 := Bool.eq_false_iff.mpr c6
    subst c6
    have H1 : (some (t115, false)) = some (r1, r2) := by rw [if_neg (show ¬ (false = true) by decide)] at H; exact H
    clear H
    have H := H1
    clear H1
    simp only [Option.some.injEq, Prod.mk.injEq] at H
    obtain ⟨rfl, rfl⟩ := H
    go_enter Tryd.func73, Tryd.ntmps73
    go_wp2_with (first | ((with_reducible refine gate_callee (f := 76) rfl ?_); refine goesL_ (some 13) rfl rfl Tryd.func76 (by kernel_rfl) rfl #[.string a0, .string a1] rfl (by (try simp only [List.map_toArray, List.map_cons, List.map_nil]); first | done | rfl | (simp only [List.length_drop, List.length_take]; rfl)) ?_; (with_reducible refine (strings_CutPrefix.calls a0 a1 t113 false _ A4.out).mono ?_); rintro e w' ⟨rfl, ⟨nd, rfl⟩⟩; refine ⟨_, rfl, ?_⟩) | ((with_reducible refine gate_callee (f := 71) rfl ?_); refine goesL_ (some 19) rfl rfl Tryd.func71 (by kernel_rfl) rfl #[.string t113, .string a2] rfl (by (try simp only [List.map_toArray, List.map_cons, List.map_nil]); first | done | rfl | (simp only [List.length_drop, List.length_take]; rfl)) ?_; (with_reducible refine (strings_CutSuffix.calls t113 a2 t115 t116 _ A5.out).mono ?_); rintro e w' ⟨rfl, ⟨nd, rfl⟩⟩; refine ⟨_, rfl, ?_⟩))
    go_ret2
    exact ⟨by first | rfl | (simp; done) | (simp [*]; done), by repeat (first | exact Drawn0.refl _ | apply Drawn0.step)⟩

end Go.Proofs.YtdaofffedfccmaaDoor.XArmorSigns
