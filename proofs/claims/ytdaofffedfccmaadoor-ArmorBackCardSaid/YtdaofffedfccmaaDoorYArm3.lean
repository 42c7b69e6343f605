/- Armor: four signs read It has no conditions. -/
import Derived.Test.YtdaofffedfccmaaDoorYArm2
import Derived.BigRegion
import Derived.RegionTactic
import Derived.ChangeAlike
import Derived.Deep.RegionWith
import Derived.Deep.RegionLaw
import Derived.Laws.Tables
import Derived.Deep.QuietTactic
import Derived.BigQuiet
import Derived.Deep.RegionHeld3
import Derived.Deep.AppendLies
import Derived.Deep.DrawnRows
import Derived.Laws.CopyOwn
import Derived.Deep.MidRow
import Derived.Laws.ResultCell
import Derived.ChangeKeysEq
import Derived.Laws.BitsAllLaws
namespace Go.Proofs.YtdaofffedfccmaaDoor.ArmP
set_option linter.unusedVariables false
set_option linter.unusedSimpArgs false
open Go.RowKit Go.Proofs.YtdaofffedfccmaaDoorW.PrintWords Go.Proofs.YtdaofffedfccmaaDoorW.PrintLast Go.Proofs.YtdaofffedfccmaaDoorW.PrintMore
attribute [local go_sem] max2_int min2_int max_two min_two max_three min_three max_four min_four
open XArmorSigns XGlob
/-! ### Four signs, read. -/
def ix (c : UInt8) : Int := Lib.indexByte alphaL c
theorem ix_fin : ∀ c : Fin 256, ix (UInt8.ofNat c.val) = -1 ∨ (0 ≤ ix (UInt8.ofNat c.val) ∧ ix (UInt8.ofNat c.val) < 64 ∧ sg (ix (UInt8.ofNat c.val)).toNat = UInt8.ofNat c.val) := by decide +kernel
theorem ix_any (c : UInt8) : ix c = -1 ∨ (0 ≤ ix c ∧ ix c < 64 ∧ sg (ix c).toNat = c) := by
  have h := ix_fin ⟨c.toNat, UInt8.toNat_lt c⟩
  rw [show UInt8.ofNat (⟨c.toNat, UInt8.toNat_lt c⟩ : Fin 256).val = c from UInt8.ofNat_toNat] at h
  exact h
theorem ix_sg_fin : ∀ n : Fin 64, ix (sg n.val) = ((n.val : Nat) : Int) := by decide +kernel
theorem ix_sg (n : Nat) (h : n < 64) : ix (sg n) = (n : Int) := ix_sg_fin ⟨n, h⟩
theorem sg_ne_fin : ∀ n : Fin 64, sg n.val ≠ 61 := by decide +kernel
theorem sg_ne (n : Nat) (h : n < 64) : sg n ≠ 61 := sg_ne_fin ⟨n, h⟩
theorem sg_inj (m n : Nat) (hm : m < 64) (hn : n < 64) (h : sg m = sg n) : m = n := by
  have e := ix_sg m hm
  rw [h, ix_sg n hn] at e
  omega
/-- The number of signs; none: one of them is no sign. -/
def acc : Nat → List UInt8 → Nat → Option Nat
  | 0, _, v => some v
  | n + 1, [], v => acc n [] (v * 64)
  | n + 1, c :: y, v => if ix c < 0 then none else acc n y (v * 64 + (ix c).toNat)
def bytes3 (v : Nat) : List UInt8 := [UInt8.ofNat (v / 65536 % 256), UInt8.ofNat (v / 256 % 256), UInt8.ofNat (v % 256)]
def quadR (n : Nat) : Option Nat → ByteArray × Bool
  | none => (⟨#[]⟩, false)
  | some v => (⟨((bytes3 v).take n).toArray⟩, (Lib.trimS ((bytes3 v).drop n) [0] == []))
theorem or6 (V b : Nat) (hV : V < 67108864) (hb : b < 64) : Go.bits .or .u32 ((V : Int) * 64 % 4294967296) ((b : Int) % 4294967296) = ((V * 64 + b : Nat) : Int) := by
  have h32 : (2 : Int) ^ 32 = 4294967296 := by decide
  have p32 : (2 : Nat) ^ 32 = 4294967296 := by decide
  have e := (Go.bits_nat .u32 32 (by decide) (fun z h0 h1 => by rw [Go.IntKind.wrap_u32]; omega) (V * 64) b (by omega) (by omega)).2
  rw [show (V : Int) * 64 % 4294967296 = ((V * 64 : Nat) : Int) by omega, show (b : Int) % 4294967296 = (b : Int) by omega, e]
  have h := Nat.two_pow_add_eq_or_of_lt (i := 6) (b := b) (by omega) V
  rw [show V * 64 = 2 ^ 6 * V by omega, ← h]
theorem str3 (v : Nat) : strOfNums [((v : Int) / 65536) % 256, ((v : Int) / 256) % 256, (v : Int) % 256] = ⟨(bytes3 v).toArray⟩ := by
  unfold strOfNums bytes3
  have e1 : (((v : Int) / 65536) % 256).toNat = v / 65536 % 256 := by omega
  have e2 : (((v : Int) / 256) % 256).toNat = v / 256 % 256 := by omega
  have e3 : ((v : Int) % 256).toNat = v % 256 := by omega
  simp only [List.map_cons, List.map_nil, e1, e2, e3]
theorem quad_l0 (y : ByteArray) (hy : y.size ≤ 4) (n : Nat) (hn : n ≤ 3) : ∀ (e i v : Nat), i + e = 4 → v < 64 ^ i → Ev (fun k => armor_quad.l0 k y (n : Int) (v : Int) (i : Int)) (quadR n (acc e (y.data.toList.drop i) v))
  | 0, i, v, he, hv => by
    obtain rfl : i = 4 := by omega
    refine Ev.step (f := fun _ => some (quadR n (acc 0 (y.data.toList.drop 4) v))) (fun k => ?_) (Ev.now _)
    have hb : (⟨(bytes3 v).toArray⟩ : ByteArray).size = 3 := rfl
    rw [armor_quad.l0, if_neg (by omega), Option.bind_some, str3, if_pos (by omega), if_pos (by rw [hb]; omega), Int.toNat_natCast, hb]
    have e1 : ((⟨(bytes3 v).toArray⟩ : ByteArray).extract n 3).data.toList = (bytes3 v).drop n := by
      have := extract_list (⟨(bytes3 v).toArray⟩ : ByteArray) n
      rw [hb] at this
      exact this
    have e2 : (⟨(bytes3 v).toArray⟩ : ByteArray).extract 0 n = ⟨((bytes3 v).take n).toArray⟩ := by
      apply ByteArray.ext
      apply Array.toList_inj.1
      rw [ByteArray.data_extract, Array.toList_extract, List.extract_eq_take_drop]
      simp
    have e3 : strings_Trim.f ((⟨(bytes3 v).toArray⟩ : ByteArray).extract n 3) ⟨#[0]⟩ = some ⟨(Lib.trimS ((bytes3 v).drop n) [0]).toArray⟩ := by
      unfold strings_Trim.f
      rw [if_pos ⟨by decide, by decide, by rw [ByteArray.size_extract, hb]; omega⟩, e1]
    rw [e3, Option.bind_some, e2, ByteArray.toList_eq]
    rfl
  | e + 1, i, v, he, hv => by
    have hl : y.data.toList.length = y.size := by rw [Array.length_toList]; rfl
    have hp : 64 ^ i ≤ 64 ^ 3 := Nat.pow_le_pow_right (by decide) (by omega)
    have hp3 : (64 : Nat) ^ 3 = 262144 := by decide
    have hps : 64 ^ (i + 1) = 64 ^ i * 64 := Nat.pow_succ ..
    have ew : wrap64 ((i : Int) + 1) = ((i + 1 : Nat) : Int) := wrap_sum i 1 (by omega) (by decide)
    have i4 : (i : Int) < 4 := by omega
    by_cases hi : y.size ≤ i
    · have hd : y.data.toList.drop i = [] := List.drop_eq_nil_of_le (by omega)
      have h2 := quad_l0 y hy n hn e (i + 1) (v * 64) (by omega) (by omega)
      rw [List.drop_eq_nil_of_le (by omega)] at h2
      rw [hd, acc]
      refine Ev.step (fun k => ?_) h2
      rw [armor_quad.l0, if_pos i4, if_pos (by omega), ew, show (v : Int) * 64 % 4294967296 = ((v * 64 : Nat) : Int) by omega]
    · have hlt : i < y.data.toList.length := by omega
      have hb : bt y (i : Int) = ((y.data.toList[i]'hlt).toNat : Int) := by
        rw [bt_list y i (by omega), List.getD_eq_getElem?_getD, List.getElem?_eq_getElem hlt]
        rfl
      obtain ⟨c, hc⟩ : ∃ c, y.data.toList[i]'hlt = c := ⟨_, rfl⟩
      have hd : y.data.toList.drop i = c :: y.data.toList.drop (i + 1) := by rw [List.drop_eq_getElem_cons hlt, hc]
      rw [hc] at hb
      have hx : strings_IndexByte.f (⟨#[65, 66, 67, 68, 69, 70, 71, 72, 73, 74, 75, 76, 77, 78, 79, 80, 81, 82, 83, 84, 85, 86, 87, 88, 89, 90, 97, 98, 99, 100, 101, 102, 103, 104, 105, 106, 107, 108, 109, 110, 111, 112, 113, 114, 115, 116, 117, 118, 119, 120, 121, 122, 48, 49, 50, 51, 52, 53, 54, 55, 56, 57, 43, 47]⟩ : ByteArray) (c.toNat : Int) = some (ix c) := by
        unfold strings_IndexByte.f
        rw [Int.toNat_natCast, show c.toNat.toUInt8 = c from UInt8.ofNat_toNat]
        rfl
      have q1 : ¬ (i : Int) ≥ (y.size : Int) := by omega
      have q2 : (i : Int) < (y.size : Int) := by omega
      have q3 : (0 : Int) ≤ (i : Int) := by omega
      rw [hd, acc]
      rcases ix_any c with h | ⟨h0, h1, _⟩
      · rw [if_pos (by omega)]
        refine Ev.step (f := fun _ => some (quadR n none)) (fun k => ?_) (Ev.now _)
        rw [armor_quad.l0, if_pos i4, if_neg q1, if_pos q3, if_pos q2, hb, hx, Option.bind_some, if_pos (by omega)]
        rfl
      · rw [if_neg (by omega)]
        obtain ⟨m, hm⟩ := Int.eq_ofNat_of_zero_le h0
        have h2 := quad_l0 y hy n hn e (i + 1) (v * 64 + m) (by omega) (by omega)
        rw [hm, Int.toNat_natCast]
        refine Ev.step (fun k => ?_) h2
        rw [armor_quad.l0, if_pos i4, if_neg q1, if_pos q3, if_pos q2, hb, hx, Option.bind_some, if_neg (by omega), ew, hm, or6 v m (by omega) (by omega)]

end Go.Proofs.YtdaofffedfccmaaDoor.ArmP
