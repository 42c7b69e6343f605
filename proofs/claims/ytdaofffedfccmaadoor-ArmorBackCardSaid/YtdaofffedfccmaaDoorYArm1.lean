/- Armor: bits It has no conditions. -/
import Derived.Test.YtdaofffedfccmaaDoorXArmorSignsx8
import Derived.BigRegion
import Derived.RegionTactic
import Derived.ChangeAlike
import Derived.Deep.RegionWith
import Derived.Deep.RegionLaw
import Derived.Laws.Tables
import Derived.Deep.QuietTactic
import Derived.BigQuiet
import Derived.Deep.RegionHeld3
import Derived.Deep.AppendLies
import Derived.Deep.DrawnRows
import Derived.Laws.CopyOwn
import Derived.Deep.MidRow
import Derived.Laws.ResultCell
import Derived.ChangeKeysEq
import Derived.Laws.BitsAllLaws
namespace Go.Proofs.YtdaofffedfccmaaDoor.ArmP
set_option linter.unusedVariables false
set_option linter.unusedSimpArgs false
open Go.RowKit Go.Proofs.YtdaofffedfccmaaDoorW.PrintWords Go.Proofs.YtdaofffedfccmaaDoorW.PrintLast Go.Proofs.YtdaofffedfccmaaDoorW.PrintMore
attribute [local go_sem] max2_int min2_int max_two min_two max_three min_three max_four min_four
open XArmorSigns XGlob
/-! ### The document's signs are the program's. -/
theorem w64c {x : Int} (h0 : -9223372036854775808 ≤ x) (h1 : x ≤ 9223372036854775807) : wrap64 x = x := by unfold wrap64; omega
theorem bt_list (s : ByteArray) (i : Nat) (h : i < s.size) : bt s (i : Int) = ((s.data.toList.getD i 0).toNat : Int) := by
  rw [← bt_at s (i : Int) (by rw [Int.toNat_natCast]; exact h)]
  simp only [Int.toNat_natCast]
  rw [ba_getD s i h]
/-- The last n bits of a byte, the first one first. -/
def bd (b : Nat) : Nat → List Int
  | 0 => []
  | n + 1 => ((b / 2 ^ n % 2 : Nat) : Int) :: bd b n
def bitsL : List UInt8 → List Int
  | [] => []
  | c :: l => bd c.toNat 8 ++ bitsL l
theorem bd_len (b : Nat) : ∀ n, (bd b n).length = n
  | 0 => rfl
  | n + 1 => by rw [bd, List.length_cons, bd_len b n]
theorem bitsL_len : ∀ l, (bitsL l).length = 8 * l.length
  | [] => rfl
  | c :: l => by rw [bitsL, List.length_append, bd_len, bitsL_len l, List.length_cons]; omega
theorem bd_01 (b : Nat) : ∀ n, ∀ x ∈ bd b n, x = 0 ∨ x = 1
  | 0, x, h => by cases h
  | n + 1, x, h => by
    rw [bd] at h
    rcases List.mem_cons.1 h with rfl | h
    · omega
    · exact bd_01 b n x h
theorem bitsL_01 : ∀ l, ∀ x ∈ bitsL l, x = 0 ∨ x = 1
  | [], x, h => by cases h
  | c :: l, x, h => by
    rw [bitsL] at h
    rcases List.mem_append.1 h with h | h
    · exact bd_01 _ _ x h
    · exact bitsL_01 l x h
/-- Eight bits of a byte are put. -/
theorem sl1 (s : ByteArray) (hs : s.size ≤ 1000000) (i : Nat) (hi : i < s.size) (r : ByteArray) : ∀ (n : Nat) (X : List Int), n ≤ 8 → X.length + n ≤ 100000000 → Ev (fun k => montageref42_Signs.l0 k s (X ++ bd (s.data.toList.getD i 0).toNat n) ((i + 1 : Nat) : Int)) r → Ev (fun k => montageref42_Signs.l1 k s X (i : Int) ((n : Int) - 1)) r
  | 0, X, hn, hX, h => by
    refine Ev.step (fun k => ?_) h
    rw [montageref42_Signs.l1, if_neg (by omega), bd, List.append_nil, w64c (by omega) (by omega)]
    rfl
  | n + 1, X, hn, hX, h => by
    have h2 := sl1 s hs i hi r n (X ++ [(((s.data.toList.getD i 0).toNat / 2 ^ n % 2 : Nat) : Int)]) (by omega) (by rw [List.length_append]; simp only [List.length_singleton]; omega) (by rw [List.append_assoc]; exact h)
    refine Ev.step (fun k => ?_) h2
    have hb : (s.data.toList.getD i 0).toNat < 256 := UInt8.toNat_lt _
    have e1 : ((n + 1 : Nat) : Int) - 1 = (n : Int) := by omega
    rw [e1, montageref42_Signs.l1, if_pos (by omega), if_pos (by omega), if_pos (by omega), if_pos (by omega), if_pos (by omega), bt_list s i hi, w64c (by omega) (by omega)]
    have e2 : shr .u8 ((s.data.toList.getD i 0).toNat : Int) (n : Int) = (((s.data.toList.getD i 0).toNat / 2 ^ n : Nat) : Int) := by
      unfold shr
      rw [Int.toNat_natCast, Nat.min_eq_left (by show n ≤ 8; omega)]
      push_cast
      rfl
    rw [e2, Int.tmod_eq_emod_of_nonneg (Int.natCast_nonneg _)]
    rfl
theorem sl0 (s : ByteArray) (hs : s.size ≤ 1000000) (r : ByteArray) : ∀ (e i : Nat) (X : List Int), i + e = s.size → X.length + 8 * e ≤ 90000000 → Ev (fun k => montageref42_Signs.l2 k (X ++ bitsL (s.data.toList.drop i))) r → Ev (fun k => montageref42_Signs.l0 k s X (i : Int)) r
  | 0, i, X, he, hX, h => by
    refine Ev.step (fun k => ?_) h
    have hl : s.data.toList.length = s.size := by rw [Array.length_toList]; rfl
    rw [montageref42_Signs.l0, if_neg (by omega), List.drop_eq_nil_of_le (by omega), bitsL, List.append_nil]
  | e + 1, i, X, he, hX, h => by
    have hl : s.data.toList.length = s.size := by rw [Array.length_toList]; rfl
    have hi : i < s.data.toList.length := by omega
    have h2 := sl0 s hs r e (i + 1) (X ++ bd (s.data.toList.getD i 0).toNat 8) (by omega) (by rw [List.length_append, bd_len]; omega) (by
      rw [List.append_assoc]
      have : s.data.toList.drop i = s.data.toList.getD i 0 :: s.data.toList.drop (i + 1) := by
        rw [List.drop_eq_getElem_cons hi, List.getD_eq_getElem?_getD, List.getElem?_eq_getElem hi]
        rfl
      rw [this, bitsL] at h
      exact h)
    refine Ev.step (fun k => ?_) (sl1 s hs i (by omega) r 8 X (by omega) (by omega) h2)
    rw [montageref42_Signs.l0, if_pos (by omega)]
    rfl
/-- Padded to a multiple of six. -/
def pad6 (X : List Int) : List Int := X ++ List.replicate ((6 - X.length % 6) % 6) 0
theorem sl2 (r : ByteArray) : ∀ (e : Nat) (X : List Int), e = (6 - X.length % 6) % 6 → X.length + e ≤ 100000000 → Ev (fun k => montageref42_Signs.l3 k (pad6 X) (⟨#[]⟩ : ByteArray) 0) r → Ev (fun k => montageref42_Signs.l2 k X) r
  | 0, X, he, hX, h => by
    refine Ev.step (fun k => ?_) h
    rw [montageref42_Signs.l2, if_pos (by omega), pad6, ← he]
    simp
  | e + 1, X, he, hX, h => by
    have hlen : (X ++ [(0 : Int)]).length = X.length + 1 := by simp
    have h2 := sl2 r e (X ++ [0]) (by rw [hlen]; omega) (by rw [hlen]; omega) (by
      have : pad6 (X ++ [0]) = pad6 X := by
        unfold pad6
        rw [List.append_assoc, List.length_append]
        congr 1
        simp only [List.length_singleton]
        rw [show (6 - X.length % 6) % 6 = (6 - (X.length + 1) % 6) % 6 + 1 by omega, List.replicate_succ]
        rfl
      rw [this]; exact h)
    refine Ev.step (fun k => ?_) h2
    rw [montageref42_Signs.l2, if_neg (by omega), if_pos (by omega)]
/-- A number of bits. -/
def num (v : Int) (Y : List Int) : Int := Y.foldl (fun v x => 2 * v + x) v
def grp : Nat → List Int → List UInt8
  | 0, _ => []
  | n + 1, Y => sg (num 0 (Y.take 6)).toNat :: grp n (Y.drop 6)
theorem num_range : ∀ (Y : List Int) (v : Int) (m : Int), (∀ x ∈ Y, x = 0 ∨ x = 1) → 0 ≤ v → v < m → 0 ≤ num v Y ∧ num v Y < m * 2 ^ Y.length
  | [], v, m, _, h0, h1 => by simp [num, h0, h1]
  | x :: Y, v, m, hY, h0, h1 => by
    have hx := hY x (List.mem_cons_self ..)
    have h := num_range Y (2 * v + x) (2 * m) (fun y hy => hY y (List.mem_cons_of_mem _ hy)) (by omega) (by omega)
    rw [List.length_cons, Int.pow_succ]
    have e : m * (2 ^ Y.length * 2) = 2 * m * 2 ^ Y.length := by rw [Int.mul_comm (2 ^ Y.length) 2, ← Int.mul_assoc, Int.mul_comm m 2]
    rw [e]
    exact h
theorem alpha_piece (n : Nat) (h : n < 64) : (⟨#[65, 66, 67, 68, 69, 70, 71, 72, 73, 74, 75, 76, 77, 78, 79, 80, 81, 82, 83, 84, 85, 86, 87, 88, 89, 90, 97, 98, 99, 100, 101, 102, 103, 104, 105, 106, 107, 108, 109, 110, 111, 112, 113, 114, 115, 116, 117, 118, 119, 120, 121, 122, 48, 49, 50, 51, 52, 53, 54, 55, 56, 57, 43, 47]⟩ : ByteArray).extract n (n + 1) = ⟨#[sg n]⟩ := by
  have h2 : ∀ x : Fin 64, ((⟨#[65, 66, 67, 68, 69, 70, 71, 72, 73, 74, 75, 76, 77, 78, 79, 80, 81, 82, 83, 84, 85, 86, 87, 88, 89, 90, 97, 98, 99, 100, 101, 102, 103, 104, 105, 106, 107, 108, 109, 110, 111, 112, 113, 114, 115, 116, 117, 118, 119, 120, 121, 122, 48, 49, 50, 51, 52, 53, 54, 55, 56, 57, 43, 47]⟩ : ByteArray).extract x.val (x.val + 1)).data.toList = [sg x.val] := by decide +kernel
  apply ByteArray.ext
  apply Array.toList_inj.1
  exact h2 ⟨n, h⟩
theorem dbl (v x : Int) (j : Nat) (h0 : 0 ≤ v) (h1 : v < 2 ^ j) (hx : x = 0 ∨ x = 1) : 0 ≤ 2 * v + x ∧ 2 * v + x < 2 ^ (j + 1) := by
  rw [Int.pow_succ]
  generalize (2 : Int) ^ j = m at *
  omega
theorem small (v : Int) (j : Nat) (hj : j ≤ 6) (h1 : v < 2 ^ j) : v < 65 := by
  have h6 : j = 0 ∨ j = 1 ∨ j = 2 ∨ j = 3 ∨ j = 4 ∨ j = 5 ∨ j = 6 := by omega
  rcases h6 with rfl | rfl | rfl | rfl | rfl | rfl | rfl <;> simp at h1 <;> omega
theorem wrap_sum (i j : Nat) (hi : i ≤ 100000000) (hj : j ≤ 100000000) : wrap64 ((i : Int) + (j : Int)) = ((i + j : Nat) : Int) := by rw [w64c (by omega) (by omega)]; omega
theorem wrap_dbl (v x : Int) (h0 : 0 ≤ v) (h1 : v < 65) (hx : x = 0 ∨ x = 1) : wrap64 (wrap64 (2 * v) + wrap64 x) = 2 * v + x := by
  rw [w64c (x := 2 * v) (by omega) (by omega), w64c (x := x) (by omega) (by omega), w64c (by omega) (by omega)]
/-- Six bits make a sign. -/
theorem sl4 (X : List Int) (hX : ∀ x ∈ X, x = 0 ∨ x = 1) (hL : X.length ≤ 100000000) (out : ByteArray) (ho : out.size ≤ 100000000) (i : Nat) (hi : i + 6 ≤ X.length) (r : ByteArray) :
    ∀ (e j : Nat) (v : Int), j + e = 6 → 0 ≤ v → v < 2 ^ j → Ev (fun k => montageref42_Signs.l3 k X (out ++ ⟨#[sg (num v ((X.drop (i + j)).take e)).toNat]⟩) ((i + 6 : Nat) : Int)) r → Ev (fun k => montageref42_Signs.l4 k X out (i : Int) v (j : Int)) r
  | 0, j, v, he, h0, h1, h => by
    obtain rfl : j = 6 := by omega
    have h1 : v < 64 := h1
    obtain ⟨n, rfl⟩ := Int.eq_ofNat_of_zero_le h0
    refine Ev.step (fun k => ?_) h
    have hsz : ((⟨#[65, 66, 67, 68, 69, 70, 71, 72, 73, 74, 75, 76, 77, 78, 79, 80, 81, 82, 83, 84, 85, 86, 87, 88, 89, 90, 97, 98, 99, 100, 101, 102, 103, 104, 105, 106, 107, 108, 109, 110, 111, 112, 113, 114, 115, 116, 117, 118, 119, 120, 121, 122, 48, 49, 50, 51, 52, 53, 54, 55, 56, 57, 43, 47]⟩ : ByteArray).size : Int) = 64 := rfl
    have e1 : wrap64 ((n : Int) + 1) = ((n + 1 : Nat) : Int) := by rw [w64c (by omega) (by omega)]; omega
    have e2 : ((n : Int)).toNat = n := Int.toNat_natCast n
    have e3 : (((n + 1 : Nat) : Int)).toNat = n + 1 := Int.toNat_natCast _
    have e4 : wrap64 ((i : Int) + 6) = ((i + 6 : Nat) : Int) := by rw [w64c (by omega) (by omega)]; omega
    rw [montageref42_Signs.l4, if_neg (by omega), montageref42_alphabet.f, Option.bind_some, if_pos (by omega), e1, if_pos (by omega), if_pos (by rw [hsz]; omega), e2, e3, alpha_piece n (by omega), if_pos (by show out.size + 1 ≤ _; omega), e4]
    rfl
  | e + 1, j, v, he, h0, h1, h => by
    have hlt : i + j < X.length := by omega
    have hg : X.getD (i + j) 0 = X[i + j]'hlt := by rw [List.getD_eq_getElem?_getD, List.getElem?_eq_getElem hlt]; rfl
    have hx := hX _ (List.getElem_mem hlt)
    obtain ⟨x, hxe⟩ : ∃ x, X[i + j]'hlt = x := ⟨_, rfl⟩
    rw [hxe] at hg hx
    have hd := dbl v x j h0 h1 hx
    have hj6 : j ≤ 6 := by omega
    have hv := small v j hj6 h1
    have hj8 : j ≤ 100000000 := by omega
    have e6 : (j : Int) < 6 := by omega
    have he2 : j + 1 + e = 6 := by omega
    have hwr := wrap_dbl v x h0 hv hx
    have e1 := wrap_sum i j (Nat.le_trans (Nat.le_trans (Nat.le_add_right i 6) hi) hL) hj8
    have e2 : wrap64 ((j : Int) + 1) = ((j + 1 : Nat) : Int) := wrap_sum j 1 hj8 (by decide)
    have h2 := sl4 X hX hL out ho i hi r e (j + 1) (2 * v + x) he2 hd.1 hd.2 (by
      rw [List.drop_eq_getElem_cons hlt, List.take_succ_cons, hxe] at h
      exact h)
    clear hd hv h1 h0 hx h
    refine Ev.step (fun k => ?_) h2
    have e3 : rd X ((i + j : Nat) : Int) = x := by unfold rd; rw [Int.toNat_natCast]; exact hg
    have e4 : 0 ≤ ((i + j : Nat) : Int) := Int.natCast_nonneg _
    have e5 : ((i + j : Nat) : Int) < (X.length : Int) := Int.ofNat_lt.2 hlt
    rw [montageref42_Signs.l4, if_pos e6, e1, if_pos e4, if_pos e5, e2, e3, hwr]
theorem sl3 (X : List Int) (hX : ∀ x ∈ X, x = 0 ∨ x = 1) (hL : X.length ≤ 90000000) (r : ByteArray) :
    ∀ (e i : Nat) (out : ByteArray), i + 6 * e = X.length → out.size + e ≤ 90000000 → Ev (fun k => montageref42_Signs.l5 k (⟨out.data ++ (grp e (X.drop i)).toArray⟩)) r → Ev (fun k => montageref42_Signs.l3 k X out (i : Int)) r
  | 0, i, out, he, ho, h => by
    refine Ev.step (fun k => ?_) h
    rw [montageref42_Signs.l3, if_neg (by omega), grp]
    simp
  | e + 1, i, out, he, ho, h => by
    have hs1 : (out ++ (⟨#[sg (num 0 ((X.drop (i + 0)).take 6)).toNat]⟩ : ByteArray)).size = out.size + 1 := ByteArray.size_append
    have h2 := sl3 X hX hL r e (i + 6) (out ++ ⟨#[sg (num 0 ((X.drop (i + 0)).take 6)).toNat]⟩) (by omega) (by omega) (by
      have e1 : (⟨(out ++ (⟨#[sg (num 0 ((X.drop (i + 0)).take 6)).toNat]⟩ : ByteArray)).data ++ (grp e (X.drop (i + 6))).toArray⟩ : ByteArray) = ⟨out.data ++ (grp (e + 1) (X.drop i)).toArray⟩ := by
        apply ByteArray.ext
        apply Array.toList_inj.1
        simp [grp, ByteArray.data_append, List.drop_drop, Nat.add_comm]
      rw [e1]
      exact h)
    have h3 := sl4 X hX (by omega) out (by omega) i (by omega) r 6 0 0 (by omega) (by omega) (by decide) h2
    refine Ev.step (fun k => ?_) h3
    rw [montageref42_Signs.l3, if_pos (by omega)]
    rfl
/-- Filled up to a multiple of four. -/
def pad4 (l : List UInt8) : List UInt8 := l ++ List.replicate ((4 - l.length % 4) % 4) 61
theorem sl5 : ∀ (e : Nat) (x : ByteArray), e = (4 - x.data.toList.length % 4) % 4 → x.size + e ≤ 100000000 → Ev (fun k => montageref42_Signs.l5 k x) ⟨(pad4 x.data.toList).toArray⟩
  | 0, x, he, hx => by
    have hl : x.data.toList.length = x.size := by rw [Array.length_toList]; rfl
    refine Ev.step (f := fun _ => some x) (fun k => ?_) (by
      have : (⟨(pad4 x.data.toList).toArray⟩ : ByteArray) = x := by
        apply ByteArray.ext
        apply Array.toList_inj.1
        have hq : (4 - x.data.toList.length % 4) % 4 = 0 := he.symm
        simp only [pad4, hq]
        simp
      rw [this]
      exact Ev.now _)
    rw [montageref42_Signs.l5, if_pos (by omega)]
  | e + 1, x, he, hx => by
    have hl : x.data.toList.length = x.size := by rw [Array.length_toList]; rfl
    have hl1 : (x ++ (⟨#[61]⟩ : ByteArray)).size = x.size + 1 := ByteArray.size_append
    have hl2 : (x ++ (⟨#[61]⟩ : ByteArray)).data.toList = x.data.toList ++ [61] := by simp [ByteArray.data_append]
    have hl3 : (x.data.toList ++ [(61 : UInt8)]).length = x.size + 1 := by rw [List.length_append, hl]; rfl
    have h2 := sl5 e (x ++ ⟨#[61]⟩) (by rw [hl2, hl3]; omega) (by omega)
    have e1 : pad4 (x ++ (⟨#[61]⟩ : ByteArray)).data.toList = pad4 x.data.toList := by
      unfold pad4
      rw [hl2, hl3, hl, List.append_assoc]
      congr 1
      rw [show (4 - x.size % 4) % 4 = (4 - (x.size + 1) % 4) % 4 + 1 by omega, List.replicate_succ]
      rfl
    rw [e1] at h2
    refine Ev.step (fun k => ?_) h2
    rw [montageref42_Signs.l5, if_neg (by omega), if_pos (by omega)]

end Go.Proofs.YtdaofffedfccmaaDoor.ArmP
