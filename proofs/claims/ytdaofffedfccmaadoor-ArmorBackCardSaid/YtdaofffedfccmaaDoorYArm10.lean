/- Armor: the CRC and Encode It has no conditions. -/
import Derived.Test.YtdaofffedfccmaaDoorYArm9
import Derived.Test.YtdaofffedfccmaaDoorXArmorSignsx7
import Derived.BigRegion
import Derived.RegionTactic
import Derived.ChangeAlike
import Derived.Deep.RegionWith
import Derived.Deep.RegionLaw
import Derived.Laws.Tables
import Derived.Deep.QuietTactic
import Derived.BigQuiet
import Derived.Deep.RegionHeld3
import Derived.Deep.AppendLies
import Derived.Deep.DrawnRows
import Derived.Laws.CopyOwn
import Derived.Deep.MidRow
import Derived.Laws.ResultCell
import Derived.ChangeKeysEq
import Derived.Laws.BitsAllLaws
namespace Go.Proofs.YtdaofffedfccmaaDoor.ArmP
set_option linter.unusedVariables false
set_option linter.unusedSimpArgs false
open Go.RowKit Go.Proofs.YtdaofffedfccmaaDoorW.PrintWords Go.Proofs.YtdaofffedfccmaaDoorW.PrintLast Go.Proofs.YtdaofffedfccmaaDoorW.PrintMore
attribute [local go_sem] max2_int min2_int max_two min_two max_three min_three max_four min_four
open XArmorSigns XGlob
/-! ### The CRC, the document is the program. -/
theorem tableR : montageref03_table.f 2700 = some ((List.range 256).map fun (i : Nat) => shN 8 (i : Int)) := by kernel_rfl

theorem bits_xor (k : IntKind) (j : Nat) (hj : j ≤ k.bits) (hk : ∀ n : Int, 0 ≤ n → n < 2 ^ j → k.wrap n = n) (a b : Nat) (ha : a < 2 ^ j) (hb : b < 2 ^ j) :
    Go.bits .xor k a b = ((a ^^^ b : Nat) : Int) := by
  have hp : 2 ^ j ≤ 2 ^ k.bits := Nat.pow_le_pow_right (by decide) hj
  have ha' : a % 2 ^ k.bits = a := Nat.mod_eq_of_lt (Nat.lt_of_lt_of_le ha hp)
  have hb' : b % 2 ^ k.bits = b := Nat.mod_eq_of_lt (Nat.lt_of_lt_of_le hb hp)
  have cast : ∀ n : Nat, n < 2 ^ j → ((n : Nat) : Int) < 2 ^ j := fun n h => by exact_mod_cast h
  simp only [Go.bits, BitVec.ofInt_natCast, BitVec.toNat_xor, BitVec.toNat_ofNat, ha', hb']
  exact hk _ (Int.natCast_nonneg _) (cast _ (Nat.xor_lt_two_pow ha hb))

theorem xor_u32 (a b : Nat) (ha : a < 4294967296) (hb : b < 4294967296) : Go.bits .xor .u32 (a : Int) (b : Int) = ((a ^^^ b : Nat) : Int) :=
  bits_xor .u32 32 (by decide) (fun n h0 h1 => by rw [IntKind.wrap_u32]; have : (2 : Int) ^ 32 = 4294967296 := by decide
                                                  omega) a b ha hb
theorem xor_u8 (a b : Nat) (ha : a < 256) (hb : b < 256) : Go.bits .xor .u8 (a : Int) (b : Int) = ((a ^^^ b : Nat) : Int) :=
  bits_xor .u8 8 (by decide) (fun n h0 h1 => by rw [IntKind.wrap_u8]; have : (2 : Int) ^ 8 = 256 := by decide
                                                omega) a b ha hb

theorem xor_same (a b : Int) (a0 : 0 ≤ a) (a1 : a < 256) (b0 : 0 ≤ b) (b1 : b < 256) : Go.bits .xor .u32 a b = Go.bits .xor .u8 a b := by
  obtain ⟨x, rfl⟩ := Int.eq_ofNat_of_zero_le a0
  obtain ⟨y, rfl⟩ := Int.eq_ofNat_of_zero_le b0
  rw [xor_u32 x y (by omega) (by omega), xor_u8 x y (by omega) (by omega)]

theorem notU_comm (c : Int) (c0 : 0 ≤ c) (c1 : c < 4294967296) : Go.bits .xor .u32 c 4294967295 = notU c := by
  obtain ⟨x, rfl⟩ := Int.eq_ofNat_of_zero_le c0
  unfold notU
  have h1 := xor_u32 x 4294967295 (by omega) (by omega)
  have h2 := xor_u32 4294967295 x (by omega) (by omega)
  rw [Nat.xor_comm] at h2
  exact h1.trans h2.symm

theorem crc_l0 (s : ByteArray) (hs : s.size ≤ 1000) : ∀ (d k : Nat), s.size - k = d → k ≤ s.size → Ev (fun q => montageref03_Of.l0 q s ((List.range 256).map fun (i : Nat) => shN 8 (i : Int)) (upS 4294967295 s k) (k : Int)) (crcOf s) := by
  intro d
  induction d with
  | zero =>
    intro k hd hk
    obtain rfl : k = s.size := by omega
    have hr := upS_range 4294967295 s (by omega) s.size
    refine Ev.step (f := fun _ => some (crcOf s)) (fun q => ?_) (Ev.now _)
    simp only [montageref03_Of.l0]
    rw [if_neg (by omega), notU_comm _ hr.1 hr.2]
    rfl
  | succ d ih =>
    intro k hd hk
    have h := ih (k + 1) (by omega) (by omega)
    have hr := upS_range 4294967295 s (by omega) k
    have hb := bt_range s (k : Int)
    have e1 : Int.tmod (upS 4294967295 s k) 256 = upS 4294967295 s k % 256 := Int.tmod_eq_emod_of_nonneg hr.1
    have e2 : Int.tdiv (upS 4294967295 s k) 256 % 4294967296 = upS 4294967295 s k / 256 := by
      rw [Int.tdiv_eq_ediv_of_nonneg hr.1]; omega
    have e3 : Go.bits .xor .u32 (upS 4294967295 s k % 256) (bt s (k : Int) % 4294967296) = Go.bits .xor .u8 (upS 4294967295 s k % 256) (bt s (k : Int)) := by
      rw [show bt s (k : Int) % 4294967296 = bt s (k : Int) from by omega]
      exact xor_same _ _ (by omega) (by omega) hb.1 (by omega)
    have hx := xor8 (upS 4294967295 s k % 256) (bt s (k : Int))
    have e4 : rd ((List.range 256).map fun (i : Nat) => shN 8 (i : Int)) (Go.bits .xor .u8 (upS 4294967295 s k % 256) (bt s (k : Int))) = shN 8 (Go.bits .xor .u8 (upS 4294967295 s k % 256) (bt s (k : Int))) := by
      unfold rd
      rw [List.getD_eq_getElem?_getD, List.getElem?_map, List.getElem?_range (by omega)]
      simp only [Option.map_some, Option.getD_some]
      rw [Int.toNat_of_nonneg hx.1]
    refine Ev.step (fun q => ?_) h
    simp only [montageref03_Of.l0]
    rw [e1, e2, e3, if_pos (by omega), if_pos (by omega), if_pos hx.1, if_pos (by simp; omega), e4, w64 (by omega) (by omega)]
    rfl


theorem crc_ev (s : ByteArray) (hs : s.size ≤ 1000) : Ev (fun k => montageref03_Of.f k s) (crcOf s) := Ev.bind (f := fun q t => montageref03_Of.l0 q s t 4294967295 0) (Ev.of montageref03_table.mono tableR) (crc_l0 s hs s.size 0 rfl (by omega))
theorem crc_nat (s : ByteArray) : ∃ n : Nat, crcOf s = (n : Int) := by
  have h : 0 ≤ crcOf s := by
    unfold crcOf notU
    have h : ∀ n : Int, 0 ≤ IntKind.u32.wrap n := fun n => by rw [IntKind.wrap_u32]; omega
    exact h _
  obtain ⟨n, hn⟩ := Int.eq_ofNat_of_zero_le h
  exact ⟨n, hn⟩
/-- The line of the CRC. -/
theorem sums (s : ByteArray) (hs : s.size ≤ 1000) : ∃ n : Nat, armor_sum.f s = some ⟨(61 :: signsL (bytes3 n)).toArray⟩ ∧ Ev (fun k => montageref42_sum.f k s) ⟨(61 :: signsL (bytes3 n)).toArray⟩ := by
  obtain ⟨n, hn⟩ := crc_nat s
  have hlen : (signsL (bytes3 n)).length = 4 := by
    rw [signsL_last _ (by simp [bytes3]) (by simp [bytes3])]
    rfl
  have e1 : (⟨#[61]⟩ : ByteArray) ++ (⟨(signsL (bytes3 n)).toArray⟩ : ByteArray) = ⟨(61 :: signsL (bytes3 n)).toArray⟩ := by
    apply ByteArray.ext
    apply Array.toList_inj.1
    simp [ByteArray.data_append]
  have e2 : (⟨(signsL (bytes3 n)).toArray⟩ : ByteArray).size = 4 := by
    show (signsL (bytes3 n)).toArray.size = 4
    rw [List.size_toArray, hlen]
  refine ⟨n, ?_, ?_⟩
  · unfold armor_sum.f
    have hc : crc_Of.f s = some (n : Int) := by
      unfold crc_Of.f
      rw [if_pos (by omega), hn]
    have hS : armor_Signs.f ⟨(bytes3 n).toArray⟩ = some ⟨(signsL (bytes3 n)).toArray⟩ := by
      unfold armor_Signs.f
      rw [if_pos (by show (bytes3 n).toArray.size ≤ _; simp [bytes3])]
    rw [hc, Option.bind_some, str3, hS, Option.bind_some, e2, if_pos (by decide), e1]
  · obtain ⟨K1, g1⟩ := crc_ev s hs
    obtain ⟨K2, g2⟩ := signs_ev ⟨(bytes3 n).toArray⟩ (by show (bytes3 n).toArray.size ≤ _; simp [bytes3])
    refine ⟨K1 + K2, fun k hk => ?_⟩
    have a1 := g1 k (by omega)
    have a2 := g2 k (by omega)
    simp only [] at a1 a2
    show montageref42_sum.f k s = _
    unfold montageref42_sum.f
    rw [a1, Option.bind_some, hn, str3, a2, Option.bind_some, e2, if_pos (by decide), e1]
/-! ### Encode. -/
theorem app_assoc (a b c : ByteArray) : a ++ b ++ c = a ++ (b ++ c) := ByteArray.append_assoc
theorem enc_l0 (s nm sm : ByteArray) (W : Nat) (hW : 4 ≤ W) (hn : nm.size ≤ 1000) (hsm : sm.size ≤ 1000) (hS : Ev (fun k => montageref42_sum.f k s) sm) :
    ∀ (m : Nat) (out t : ByteArray), t.size ≤ m → out.size + 2 * t.size ≤ 100000000 → Ev (fun k => montageref42_Encode.l0 k s nm (W : Int) out t) (⟨(out.data.toList ++ linesA W t.data.toList.length t.data.toList ++ (footA nm sm).data.toList).toArray⟩, 0) := by
  intro m
  induction m with
  | zero =>
    intro out t ht ho
    have htl : t.data.toList = [] := List.length_eq_zero_iff.1 (by rw [Array.length_toList]; show t.size = 0; omega)
    obtain ⟨K, g⟩ := hS
    refine ⟨K + 1, fun n hn' => ?_⟩
    obtain ⟨k, rfl⟩ : ∃ k, n = k + 1 := ⟨n - 1, by omega⟩
    have a := g k (by omega)
    simp only [] at a
    have s1 : (out ++ sm).size = out.size + sm.size := ByteArray.size_append
    have s2 : ((out ++ sm) ++ (⟨#[10, 45, 45, 45, 45, 45, 69, 78, 68, 32]⟩ : ByteArray)).size = out.size + sm.size + 10 := by rw [ByteArray.size_append, s1]; rfl
    have s3 : (((out ++ sm) ++ (⟨#[10, 45, 45, 45, 45, 45, 69, 78, 68, 32]⟩ : ByteArray)) ++ nm).size = out.size + sm.size + 10 + nm.size := by rw [ByteArray.size_append, s2]
    show montageref42_Encode.l0 (k + 1) s nm (W : Int) out t = _
    rw [montageref42_Encode.l0, ByteArray.toList_eq, if_pos htl, a, Option.bind_some, if_pos (by omega), s1, if_pos (by omega), s2, if_pos (by omega), s3, if_pos (by omega), htl]
    congr 2
    apply ByteArray.ext
    apply Array.toList_inj.1
    simp [ByteArray.data_append, footA, nlB, endB, tailB, linesA]
  | succ m ih =>
    intro out t ht ho
    by_cases h0 : t.data.toList = []
    · have : t.size = 0 := by
        have := congrArg List.length h0
        rw [Array.length_toList] at this
        exact this
      exact ih out t (by omega) ho
    · have htl : t.data.toList.length = t.size := by rw [Array.length_toList]; rfl
      have hp : 0 < t.data.toList.length := List.length_pos_iff.2 h0
      obtain ⟨p, hpm⟩ : ∃ p : Nat, p = min W t.size := ⟨_, rfl⟩
      have hmn : mn (W : Int) (t.size : Int) = (p : Int) := by unfold mn; split <;> omega
      have hex : (t.extract 0 p).size = p := by rw [ByteArray.size_extract]; omega
      have hey : (t.extract p t.size).size = t.size - p := by rw [ByteArray.size_extract]; omega
      have s1 : (out ++ t.extract 0 p).size = out.size + p := by rw [ByteArray.size_append, hex]
      have s2 : (out ++ t.extract 0 p ++ (⟨#[10]⟩ : ByteArray)).size = out.size + p + 1 := by rw [ByteArray.size_append, s1]; rfl
      have h2 := ih (out ++ t.extract 0 p ++ ⟨#[10]⟩) (t.extract p t.size) (by omega) (by omega)
      have e : (out ++ t.extract 0 p ++ (⟨#[10]⟩ : ByteArray)).data.toList ++ linesA W (t.extract p t.size).data.toList.length (t.extract p t.size).data.toList = out.data.toList ++ linesA W t.data.toList.length t.data.toList := by
        rw [ByteArray.data_append, ByteArray.data_append, Array.toList_append, Array.toList_append, take_list, extract_list, linesA_step W (by omega) t.data.toList h0]
        have e1 : t.data.toList.take p = t.data.toList.take W ∧ t.data.toList.drop p = t.data.toList.drop W := by
          by_cases hWt : W ≤ t.size
          · rw [show p = W by omega]; exact ⟨rfl, rfl⟩
          · rw [show p = t.size by omega, List.take_of_length_le (by omega), List.take_of_length_le (by omega), List.drop_eq_nil_of_le (by omega), List.drop_eq_nil_of_le (by omega)]
            exact ⟨rfl, rfl⟩
        rw [e1.1, e1.2]
        simp
      rw [e] at h2
      refine Ev.step (fun k => ?_) h2
      rw [montageref42_Encode.l0, ByteArray.toList_eq, if_neg h0, hmn, if_pos (by omega), if_pos (by omega), Int.toNat_natCast, if_pos (by omega), s1, if_pos (by omega)]

end Go.Proofs.YtdaofffedfccmaaDoor.ArmP
