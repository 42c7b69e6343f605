/- Armor: the document Bytes It has no conditions. -/
import Derived.Test.YtdaofffedfccmaaDoorYArm6
import Derived.Test.YtdaofffedfccmaaDoorXArmorSignsx6
import Derived.BigRegion
import Derived.RegionTactic
import Derived.ChangeAlike
import Derived.Deep.RegionWith
import Derived.Deep.RegionLaw
import Derived.Laws.Tables
import Derived.Deep.QuietTactic
import Derived.BigQuiet
import Derived.Deep.RegionHeld3
import Derived.Deep.AppendLies
import Derived.Deep.DrawnRows
import Derived.Laws.CopyOwn
import Derived.Deep.MidRow
import Derived.Laws.ResultCell
import Derived.ChangeKeysEq
import Derived.Laws.BitsAllLaws
namespace Go.Proofs.YtdaofffedfccmaaDoor.ArmP
set_option linter.unusedVariables false
set_option linter.unusedSimpArgs false
open Go.RowKit Go.Proofs.YtdaofffedfccmaaDoorW.PrintWords Go.Proofs.YtdaofffedfccmaaDoorW.PrintLast Go.Proofs.YtdaofffedfccmaaDoorW.PrintMore
attribute [local go_sem] max2_int min2_int max_two min_two max_three min_three max_four min_four
open XArmorSigns XGlob
/-! ### Bytes, the document's. -/
theorem value_fin : ∀ c : Fin 256, montageref42_value.f 70 ((c.val : Nat) : Int) = some (ix (UInt8.ofNat c.val)) := by decide +kernel
theorem value_ev (c : UInt8) : Ev (fun k => montageref42_value.f k (c.toNat : Int)) (ix c) := by
  have h := value_fin ⟨c.toNat, UInt8.toNat_lt c⟩
  rw [show UInt8.ofNat (⟨c.toNat, UInt8.toNat_lt c⟩ : Fin 256).val = c from UInt8.ofNat_toNat] at h
  exact Ev.of (fun k => montageref42_value.mono _ k) h
/-- The bytes that signs say, one by one; a: what is left over, of h bits. -/
def dec : List UInt8 → Nat → Nat → List Nat → Option (List Nat)
  | [], _, _, out => some out
  | c :: y, a, h, out => if ix c < 0 then none else if 8 ≤ h + 6 then dec y ((a * 64 + (ix c).toNat) % 2 ^ (h + 6 - 8)) (h + 6 - 8) (out ++ [(a * 64 + (ix c).toNat) / 2 ^ (h + 6 - 8) % 256]) else dec y (a * 64 + (ix c).toNat) (h + 6) out
def ints (l : List Nat) : List Int := l.map fun (n : Nat) => (n : Int)
theorem ints_app (l : List Nat) (n : Nat) : ints (l ++ [n]) = ints l ++ [(n : Int)] := by simp [ints]
theorem ints_len (l : List Nat) : (ints l).length = l.length := by simp [ints]
def bytesN (l : List Nat) : List UInt8 := l.map fun n => UInt8.ofNat n
theorem str_ints (l : List Nat) : strOfNums (ints l) = ⟨(bytesN l).toArray⟩ := by
  unfold strOfNums ints bytesN
  rw [List.map_map]
  rfl
/-- The answer behind the loop. -/
def decR (t : List UInt8) : Option (List Nat) → ByteArray × Int
  | none => (⟨#[]⟩, 2)
  | some out => if signsL (bytesN out) = t then (⟨(bytesN out).toArray⟩, 0) else (⟨#[]⟩, 2)
theorem w_a (a m : Nat) (h : a * 64 + m < 8192) : wrap64 (wrap64 ((a : Int) * 64) + (m : Int)) = ((a * 64 + m : Nat) : Int) := by
  rw [w64c (x := (a : Int) * 64) (by omega) (by omega), w64c (by omega) (by omega)]
  omega
theorem w_6 (h : Nat) (hh : h ≤ 7) : wrap64 ((h : Int) + 6) = ((h + 6 : Nat) : Int) := by rw [w64c (by omega) (by omega)]; omega
theorem w_8 (h : Nat) (hh : h ≤ 7) (h8 : 8 ≤ h + 6) : wrap64 (((h + 6 : Nat) : Int) - 8) = ((h + 6 - 8 : Nat) : Int) := by rw [w64c (by omega) (by omega)]; omega
theorem w_1 (i : Nat) (hi : i ≤ 2000000) : wrap64 ((i : Int) + 1) = ((i + 1 : Nat) : Int) := by rw [w64c (by omega) (by omega)]; omega
theorem w_2 (j : Nat) (hj : j ≤ 6) : wrap64 (2 * ((2 ^ j : Nat) : Int)) = ((2 ^ (j + 1) : Nat) : Int) := by
  have hp6 : 2 ^ j ≤ 2 ^ 6 := Nat.pow_le_pow_right (by decide) hj
  have hps : 2 ^ (j + 1) = 2 ^ j * 2 := Nat.pow_succ ..
  rw [hps]
  generalize 2 ^ j = q at *
  rw [w64c (by omega) (by omega)]
  omega
theorem w_q (a : Int) (q : Nat) (ha0 : 0 ≤ a) (ha : a < 65536) : wrap64 (a / (q : Int)) = a / (q : Int) := by
  have hq0 : 0 ≤ a / (q : Int) := Int.ediv_nonneg ha0 (Int.natCast_nonneg _)
  have hq1 : a / (q : Int) ≤ a := Int.ediv_le_self _ ha0
  rw [w64c (by omega) (by omega)]
theorem ref_l2 (t : ByteArray) (n : Int) (X : List Int) (a : Int) (i : Nat) (hi : i ≤ 2000000) (hX : X.length ≤ 1000000) (h : Nat) (hh : h ≤ 6) (ha0 : 0 ≤ a) (ha : a < 65536) (r : ByteArray × Int) :
    ∀ (e j : Nat), j + e = h → Ev (fun k => montageref42_Bytes.l1 k t n (X ++ [a / 2 ^ h % 256]) (a % 2 ^ h) (h : Int) ((i + 1 : Nat) : Int)) r → Ev (fun k => montageref42_Bytes.l2 k t n X a (h : Int) (i : Int) (((2 ^ j : Nat)) : Int) (j : Int)) r
  | 0, j, he, hr => by
    obtain rfl : j = h := by omega
    have hp : 1 ≤ 2 ^ j := Nat.one_le_two_pow
    have hc : (2 : Int) ^ j = ((2 ^ j : Nat) : Int) := by push_cast; rfl
    rw [hc] at hr
    have hj1 : ¬ (j : Int) < (j : Int) := by omega
    have hz : ¬ ((2 ^ j : Nat) : Int) = 0 := by omega
    have hx : (X.length : Int) < 140737488355328 ∧ X.length < 140737488355328 := by omega
    refine Ev.step (fun k => ?_) hr
    rw [montageref42_Bytes.l2, if_neg hj1, if_neg hz, if_pos hx.2, Int.tdiv_eq_ediv_of_nonneg ha0, w_q a (2 ^ j) ha0 ha, Int.tmod_eq_emod_of_nonneg ha0, w_1 i hi]
  | e + 1, j, he, hr => by
    have hj6 : j ≤ 6 := by omega
    have hj2 : j ≤ 2000000 := by omega
    have hjh : (j : Int) < (h : Int) := by omega
    have he2 : j + 1 + e = h := by omega
    refine Ev.step (fun k => ?_) (ref_l2 t n X a i hi hX h hh ha0 ha r e (j + 1) he2 hr)
    rw [montageref42_Bytes.l2, if_pos hjh, w_2 j hj6, w_1 j hj2]
theorem step_lt (a m h : Nat) (hh : h ≤ 7) (ha : a < 2 ^ h) (hm : m < 64) : a * 64 + m < 8192 := by
  have : 2 ^ h ≤ 2 ^ 7 := Nat.pow_le_pow_right (by decide) hh
  have h7 : (2 : Nat) ^ 7 = 128 := by decide
  omega
theorem ref_l1 (t : ByteArray) (ht : t.size ≤ 1000000) (y : List UInt8) (hy : t.data.toList.take y.length = y) (hyl : y.length ≤ t.size) :
    ∀ (e i a h : Nat) (out : List Nat), i + e = y.length → h ≤ 7 → h % 2 = 0 → a < 2 ^ h → out.length ≤ i → Ev (fun k => montageref42_Bytes.l1 k t (y.length : Int) (ints out) (a : Int) (h : Int) (i : Int)) (decR t.data.toList (dec (y.drop i) a h out))
  | 0, i, a, h, out, he, hh, hh2, ha, ho => by
    have hd : y.drop i = [] := List.drop_eq_nil_of_le (by omega)
    have hbl : (bytesN out).length = out.length := by simp [bytesN]
    obtain ⟨K, g⟩ := signs_ev ⟨(bytesN out).toArray⟩ (by show (bytesN out).toArray.size ≤ _; rw [List.size_toArray, hbl]; omega)
    refine ⟨K + 1, fun n hn => ?_⟩
    obtain ⟨k, rfl⟩ : ∃ k, n = k + 1 := ⟨n - 1, by omega⟩
    have gk := g k (by omega)
    simp only [] at gk
    show montageref42_Bytes.l1 (k + 1) t (y.length : Int) (ints out) (a : Int) (h : Int) (i : Int) = _
    rw [montageref42_Bytes.l1, if_neg (by omega), str_ints, gk, Option.bind_some, hd, dec, ByteArray.toList_eq, ByteArray.toList_eq]
    show (if signsL (bytesN out) = t.data.toList then _ else _) = some (decR t.data.toList (some out))
    by_cases hs : signsL (bytesN out) = t.data.toList
    · simp only [decR, if_pos hs]
    · simp only [decR, if_neg hs]
  | e + 1, i, a, h, out, he, hh, hh2, ha, ho => by
    have hlt : i < y.length := by omega
    obtain ⟨c, hc⟩ : ∃ c, y[i]'hlt = c := ⟨_, rfl⟩
    have htl : t.data.toList.length = t.size := by rw [Array.length_toList]; rfl
    have hd : y.drop i = c :: y.drop (i + 1) := by rw [List.drop_eq_getElem_cons hlt, hc]
    have hb : bt t (i : Int) = (c.toNat : Int) := by
      rw [bt_list t i (by omega), List.getD_eq_getElem?_getD]
      have : t.data.toList[i]? = some c := by
        have h9 : y[i]? = some c := by rw [List.getElem?_eq_getElem hlt, hc]
        rw [← hy, List.getElem?_take] at h9
        rw [if_pos hlt] at h9
        exact h9
      rw [this]
      rfl
    obtain ⟨K, g⟩ := value_ev c
    have q1 : (i : Int) < (y.length : Int) := by omega
    have q2 : (0 : Int) ≤ (i : Int) := by omega
    have q3 : (i : Int) < (t.size : Int) := by omega
    rw [hd, dec]
    rcases ix_any c with hx | ⟨h0, h1, _⟩
    · rw [if_pos (by omega)]
      refine ⟨K + 1, fun n hn => ?_⟩
      obtain ⟨k, rfl⟩ : ∃ k, n = k + 1 := ⟨n - 1, by omega⟩
      have gk := g k (by omega)
      simp only [] at gk
      show montageref42_Bytes.l1 (k + 1) t (y.length : Int) (ints out) (a : Int) (h : Int) (i : Int) = _
      rw [montageref42_Bytes.l1, if_pos q1, if_pos q2, if_pos q3, hb, gk, Option.bind_some, if_pos (by omega)]
      rfl
    · rw [if_neg (by omega)]
      obtain ⟨m, hm⟩ := Int.eq_ofNat_of_zero_le h0
      have hm64 : m < 64 := by omega
      have hsl := step_lt a m h hh ha hm64
      have hi2 : i ≤ 2000000 := by omega
      have hn0 : ¬ ix c < 0 := by omega
      rw [hm] at g hn0
      rw [hm, Int.toNat_natCast]
      clear hm h0 h1
      by_cases h8 : 8 ≤ h + 6
      · rw [if_pos h8]
        have hmod : (a * 64 + m) % 2 ^ (h + 6 - 8) < 2 ^ (h + 6 - 8) := Nat.mod_lt _ (by have : 1 ≤ 2 ^ (h + 6 - 8) := Nat.one_le_two_pow; omega)
        have h2 := ref_l1 t ht y hy hyl e (i + 1) ((a * 64 + m) % 2 ^ (h + 6 - 8)) (h + 6 - 8) (out ++ [(a * 64 + m) / 2 ^ (h + 6 - 8) % 256]) (by omega) (by omega) (by omega) hmod (by rw [List.length_append]; simp only [List.length_singleton]; omega)
        have h3 := ref_l2 t (y.length : Int) (ints out) ((a * 64 + m : Nat) : Int) i (by omega) (by rw [ints_len]; omega) (h + 6 - 8) (by omega) (by omega) (by omega) (decR t.data.toList (dec (y.drop (i + 1)) ((a * 64 + m) % 2 ^ (h + 6 - 8)) (h + 6 - 8) (out ++ [(a * 64 + m) / 2 ^ (h + 6 - 8) % 256]))) (h + 6 - 8) 0 (by omega) (by
          rw [ints_app] at h2
          have e1 : (((a * 64 + m) / 2 ^ (h + 6 - 8) % 256 : Nat) : Int) = ((a * 64 + m : Nat) : Int) / 2 ^ (h + 6 - 8) % 256 := by rw [Int.natCast_emod, Int.natCast_ediv, Int.natCast_pow]; rfl
          have e2 : (((a * 64 + m) % 2 ^ (h + 6 - 8) : Nat) : Int) = ((a * 64 + m : Nat) : Int) % 2 ^ (h + 6 - 8) := by rw [Int.natCast_emod, Int.natCast_pow]; rfl
          rw [e1, e2] at h2
          exact h2)
        obtain ⟨K3, g3⟩ := h3
        refine ⟨K + K3 + 1, fun n hn => ?_⟩
        obtain ⟨k, rfl⟩ : ∃ k, n = k + 1 := ⟨n - 1, by omega⟩
        have gk := g k (by omega)
        have gk3 := g3 k (by omega)
        simp only [] at gk gk3
        have h8' : ((h + 6 : Nat) : Int) ≥ 8 := by omega
        clear g g3
        show montageref42_Bytes.l1 (k + 1) t (y.length : Int) (ints out) (a : Int) (h : Int) (i : Int) = _
        rw [montageref42_Bytes.l1, if_pos q1, if_pos q2, if_pos q3, hb, gk, Option.bind_some, if_neg hn0, w_6 h hh, if_pos h8', w_a a m hsl, w_8 h hh h8]
        exact gk3
      · rw [if_neg h8]
        have hlt2 : a * 64 + m < 2 ^ (h + 6) := by
          have : 2 ^ (h + 6) = 2 ^ h * 64 := by rw [Nat.pow_add]
          omega
        have h2 := ref_l1 t ht y hy hyl e (i + 1) (a * 64 + m) (h + 6) out (by omega) (by omega) (by omega) hlt2 (by omega)
        obtain ⟨K3, g3⟩ := h2
        refine ⟨K + K3 + 1, fun n hn => ?_⟩
        obtain ⟨k, rfl⟩ : ∃ k, n = k + 1 := ⟨n - 1, by omega⟩
        have gk := g k (by omega)
        have gk3 := g3 k (by omega)
        simp only [] at gk gk3
        have h8' : ¬ ((h + 6 : Nat) : Int) ≥ 8 := by omega
        clear g g3
        show montageref42_Bytes.l1 (k + 1) t (y.length : Int) (ints out) (a : Int) (h : Int) (i : Int) = _
        rw [montageref42_Bytes.l1, if_pos q1, if_pos q2, if_pos q3, hb, gk, Option.bind_some, if_neg hn0, w_6 h hh, if_neg h8', w_a a m hsl, w_1 i hi2]
        exact gk3
/-- Without the last '=' signs. -/
theorem ref_l0 (t : ByteArray) (ht : t.size ≤ 1000000) (r : ByteArray × Int) : ∀ (m : Nat), m ≤ t.size → Ev (fun k => montageref42_Bytes.l1 k t ((Lib.trimRightS (t.data.toList.take m) [61]).length : Int) [] 0 0 0) r → Ev (fun k => montageref42_Bytes.l0 k t (m : Int)) r
  | 0, hm, h => by
    rw [List.take_zero] at h
    refine Ev.step (fun k => ?_) (Ev.step (g := fun k => montageref42_Bytes.j1 k t 0) (fun k => ?_) h)
    · rw [montageref42_Bytes.l0, if_neg (by omega)]
      rfl
    · rw [montageref42_Bytes.j1]
      rfl
  | m + 1, hm, h => by
    have htl : t.data.toList.length = t.size := by rw [Array.length_toList]; rfl
    have hlt : m < t.data.toList.length := by omega
    obtain ⟨c, hc⟩ : ∃ c, t.data.toList[m]'hlt = c := ⟨_, rfl⟩
    have hb : bt t (m : Int) = (c.toNat : Int) := by
      rw [bt_list t m (by omega), List.getD_eq_getElem?_getD, List.getElem?_eq_getElem hlt, hc]
      rfl
    have hw : wrap64 (((m + 1 : Nat) : Int) - 1) = (m : Int) := by rw [w64c (by omega) (by omega)]; omega
    have q1 : ((m + 1 : Nat) : Int) > 0 := by omega
    have q2 : (0 : Int) ≤ (m : Int) := by omega
    have q3 : (m : Int) < (t.size : Int) := by omega
    rw [List.take_succ_eq_append_getElem hlt, hc, trimR_snoc] at h
    by_cases h61 : c = 61
    · rw [if_pos h61] at h
      refine Ev.step (fun k => ?_) (ref_l0 t ht r m (by omega) h)
      rw [montageref42_Bytes.l0, if_pos q1, hw, if_pos q2, if_pos q3, hb, if_pos (by rw [h61]; rfl)]
    · rw [if_neg h61] at h
      have hlen : (t.data.toList.take m ++ [c]).length = m + 1 := by rw [List.length_append, List.length_take]; simp only [List.length_singleton]; omega
      rw [hlen] at h
      have hne : ¬ (c.toNat : Int) = 61 := by
        intro e
        have : c.toNat = 61 := by omega
        exact h61 (UInt8.toNat_inj.1 this)
      refine Ev.step (fun k => ?_) (Ev.step (g := fun k => montageref42_Bytes.j1 k t ((m + 1 : Nat) : Int)) (fun k => ?_) h)
      · rw [montageref42_Bytes.l0, if_pos q1, hw, if_pos q2, if_pos q3, hb, if_neg hne]
      · rw [montageref42_Bytes.j1]
theorem trimR_prefix (l : List UInt8) : ∃ z, l = Lib.trimRightS l [61] ++ z := by
  unfold Lib.trimRightS
  obtain ⟨z, hz⟩ := List.dropWhile_suffix (l := l.reverse) fun x => [(61 : UInt8)].contains x
  refine ⟨z.reverse, ?_⟩
  have := congrArg List.reverse hz
  rw [List.reverse_append, List.reverse_reverse] at this
  exact this.symm
theorem ref_ev (t : ByteArray) (ht : t.size ≤ 1000000) : Ev (fun k => montageref42_Bytes.f k t) (decR t.data.toList (dec (Lib.trimRightS t.data.toList [61]) 0 0 [])) := by
  have htl : t.data.toList.length = t.size := by rw [Array.length_toList]; rfl
  obtain ⟨z, hz⟩ := trimR_prefix t.data.toList
  have hle := trimR_le t.data.toList
  have h00 := ref_l0 t ht (decR t.data.toList (dec (Lib.trimRightS t.data.toList [61]) 0 0 [])) t.size (Nat.le_refl _)
  rw [← htl, List.take_length] at h00
  obtain ⟨R, hR⟩ : ∃ R, Lib.trimRightS t.data.toList [61] = R := ⟨_, rfl⟩
  rw [hR] at hz hle h00 ⊢
  have h1 := ref_l1 t ht R (by rw [hz, List.take_left]) (by omega) R.length 0 0 0 [] (by omega) (by omega) (by omega) (by omega) (by simp)
  rw [List.drop_zero] at h1
  have h0 := h00 h1
  rw [htl] at h0
  exact h0
/-! ### Signs of bytes are read as these bytes. -/
theorem dec_sg (m : Nat) (hm : m < 64) (y : List UInt8) (a h : Nat) (out : List Nat) : dec (sg m :: y) a h out = if 8 ≤ h + 6 then dec y ((a * 64 + m) % 2 ^ (h + 6 - 8)) (h + 6 - 8) (out ++ [(a * 64 + m) / 2 ^ (h + 6 - 8) % 256]) else dec y (a * 64 + m) (h + 6) out := by
  rw [dec, ix_sg m hm, if_neg (by omega), Int.toNat_natCast]
theorem dec3 (a b c : UInt8) (y : List UInt8) (out : List Nat) : dec (quadL [a, b, c] ++ y) 0 0 out = dec y 0 0 (out ++ [a.toNat, b.toNat, c.toNat]) := by
  have ha := UInt8.toNat_lt a
  have hb := UInt8.toNat_lt b
  have hc := UInt8.toNat_lt c
  rw [quad3]
  show dec (sg _ :: sg _ :: sg _ :: sg _ :: y) 0 0 out = _
  rw [dec_sg _ (by omega), if_neg (by omega), dec_sg _ (by omega), if_pos (by omega), dec_sg _ (by omega), if_pos (by omega), dec_sg _ (by omega), if_pos (by omega)]
  have e1 : ((0 * 64 + a.toNat / 4) * 64 + (a.toNat % 4 * 16 + b.toNat / 16)) / 2 ^ (0 + 6 + 6 - 8) % 256 = a.toNat := by show _ / 16 % 256 = _; omega
  have e2 : (((0 * 64 + a.toNat / 4) * 64 + (a.toNat % 4 * 16 + b.toNat / 16)) % 2 ^ (0 + 6 + 6 - 8) * 64 + (b.toNat % 16 * 4 + c.toNat / 64)) / 2 ^ (0 + 6 + 6 - 8 + 6 - 8) % 256 = b.toNat := by show (_ % 16 * 64 + _) / 4 % 256 = _; omega
  have e3 : ((((0 * 64 + a.toNat / 4) * 64 + (a.toNat % 4 * 16 + b.toNat / 16)) % 2 ^ (0 + 6 + 6 - 8) * 64 + (b.toNat % 16 * 4 + c.toNat / 64)) % 2 ^ (0 + 6 + 6 - 8 + 6 - 8) * 64 + c.toNat % 64) / 2 ^ (0 + 6 + 6 - 8 + 6 - 8 + 6 - 8) % 256 = c.toNat := by show ((_ % 16 * 64 + _) % 4 * 64 + _) / 1 % 256 = _; omega
  have e4 : ((((0 * 64 + a.toNat / 4) * 64 + (a.toNat % 4 * 16 + b.toNat / 16)) % 2 ^ (0 + 6 + 6 - 8) * 64 + (b.toNat % 16 * 4 + c.toNat / 64)) % 2 ^ (0 + 6 + 6 - 8 + 6 - 8) * 64 + c.toNat % 64) % 2 ^ (0 + 6 + 6 - 8 + 6 - 8 + 6 - 8) = 0 := by show _ % 1 = 0; omega
  rw [e1, e2, e3, e4]
  simp
theorem trimR_quad (a b c : UInt8) (z : List UInt8) : Lib.trimRightS (quadL [a, b, c] ++ z) [61] = quadL [a, b, c] ++ Lib.trimRightS z [61] := by
  have hc := UInt8.toNat_lt c
  have key : ∀ w : List UInt8, Lib.trimRightS (quadL [a, b, c] ++ w.reverse) [61] = quadL [a, b, c] ++ Lib.trimRightS w.reverse [61] := by
    intro w
    induction w with
    | nil =>
      rw [List.reverse_nil, List.append_nil, trimR_nil, List.append_nil, quad3, show [sg (a.toNat / 4), sg (a.toNat % 4 * 16 + b.toNat / 16), sg (b.toNat % 16 * 4 + c.toNat / 64), sg (c.toNat % 64)] = [sg (a.toNat / 4), sg (a.toNat % 4 * 16 + b.toNat / 16), sg (b.toNat % 16 * 4 + c.toNat / 64)] ++ [sg (c.toNat % 64)] from rfl, trimR_snoc, if_neg (sg_ne _ (by omega))]
    | cons x w ih =>
      rw [List.reverse_cons, ← List.append_assoc, trimR_snoc, trimR_snoc]
      by_cases hx : x = 61
      · rw [if_pos hx, if_pos hx, ih]
      · rw [if_neg hx, if_neg hx, List.append_assoc]
  have h := key z.reverse
  rw [List.reverse_reverse] at h
  exact h
theorem dec_signs : ∀ (n : Nat) (b : List UInt8) (out : List Nat), b.length ≤ n → dec (Lib.trimRightS (signsL b) [61]) 0 0 out = some (out ++ b.map UInt8.toNat)
  | n, [], out, _ => by simp [signsL, trimR_nil, dec]
  | n, [a], out, _ => by
    have ha := UInt8.toNat_lt a
    have e : Lib.trimRightS (signsL [a]) [61] = [sg (a.toNat / 4), sg (a.toNat % 4 * 16)] := by
      rw [signsL, quad1, show [sg (a.toNat / 4), sg (a.toNat % 4 * 16), (61 : UInt8), 61] = ((([] ++ [sg (a.toNat / 4)]) ++ [sg (a.toNat % 4 * 16)]) ++ [61]) ++ [61] from rfl, trimR_snoc, if_pos rfl, trimR_snoc, if_pos rfl, trimR_snoc, if_neg (sg_ne _ (by omega))]
      rfl
    rw [e, dec_sg _ (by omega), if_neg (by omega), dec_sg _ (by omega), if_pos (by omega), dec]
    have e1 : ((0 * 64 + a.toNat / 4) * 64 + a.toNat % 4 * 16) / 2 ^ (0 + 6 + 6 - 8) % 256 = a.toNat := by show _ / 16 % 256 = _; omega
    rw [e1]
    rfl
  | n, [a, b], out, _ => by
    have ha := UInt8.toNat_lt a
    have hb := UInt8.toNat_lt b
    have e : Lib.trimRightS (signsL [a, b]) [61] = [sg (a.toNat / 4), sg (a.toNat % 4 * 16 + b.toNat / 16), sg (b.toNat % 16 * 4)] := by
      rw [signsL, quad2, show [sg (a.toNat / 4), sg (a.toNat % 4 * 16 + b.toNat / 16), sg (b.toNat % 16 * 4), (61 : UInt8)] = [sg (a.toNat / 4), sg (a.toNat % 4 * 16 + b.toNat / 16)] ++ [sg (b.toNat % 16 * 4)] ++ [61] from rfl, trimR_snoc, if_pos rfl, trimR_snoc, if_neg (sg_ne _ (by omega))]
      rfl
    rw [e, dec_sg _ (by omega), if_neg (by omega), dec_sg _ (by omega), if_pos (by omega), dec_sg _ (by omega), if_pos (by omega), dec]
    have e1 : ((0 * 64 + a.toNat / 4) * 64 + (a.toNat % 4 * 16 + b.toNat / 16)) / 2 ^ (0 + 6 + 6 - 8) % 256 = a.toNat := by show _ / 16 % 256 = _; omega
    have e2 : (((0 * 64 + a.toNat / 4) * 64 + (a.toNat % 4 * 16 + b.toNat / 16)) % 2 ^ (0 + 6 + 6 - 8) * 64 + b.toNat % 16 * 4) / 2 ^ (0 + 6 + 6 - 8 + 6 - 8) % 256 = b.toNat := by show (_ % 16 * 64 + _) / 4 % 256 = _; omega
    rw [e1, e2]
    simp
  | 0, a :: b :: c :: t, out, h => by simp at h
  | n + 1, a :: b :: c :: t, out, h => by
    rw [signsL, trimR_quad, dec3, dec_signs n t _ (by simp at h; omega)]
    simp
theorem bytesN_back (b : List UInt8) : bytesN (b.map UInt8.toNat) = b := by
  unfold bytesN
  rw [List.map_map]
  conv => rhs; rw [← List.map_id b]
  refine List.map_congr_left fun x _ => ?_
  exact UInt8.ofNat_toNat
theorem ref_bytes (t : ByteArray) (ht : t.size ≤ 1000000) : ∃ res, IsB t.data.toList ⟨#[]⟩ res ∧ Ev (fun k => montageref42_Bytes.f k t) res := by
  refine ⟨_, ⟨fun b hb => ?_, fun hno => ?_⟩, ref_ev t ht⟩
  · rw [← hb, dec_signs _ b [] (Nat.le_refl _), List.nil_append]
    simp only [decR, bytesN_back, ↓reduceIte]
    rfl
  · cases dec (Lib.trimRightS t.data.toList [61]) 0 0 [] with
    | none => rfl
    | some out => simp only [decR, if_neg (hno (bytesN out))]
theorem isB_same (t : List UInt8) (dn : ByteArray) (r s : ByteArray × Int) (h1 : IsB t dn r) (h2 : IsB t dn s) : r = s := by
  by_cases h : ∃ b, signsL b = t
  · obtain ⟨b, hb⟩ := h
    rw [h1.1 b hb, h2.1 b hb]
  · rw [h1.2 (fun b hb => h ⟨b, hb⟩), h2.2 (fun b hb => h ⟨b, hb⟩)]

end Go.Proofs.YtdaofffedfccmaaDoor.ArmP
