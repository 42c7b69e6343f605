/- The document's text of bits, in this seat. It has no conditions. -/
import Derived.Test.YtiemjhoadobigaaYPrefixOf
import Derived.Test.YtiemjhoadobigaaXPrefixBackx
namespace Go.Proofs.Ytiemjhoadobigaa.XPrefixReads
set_option linter.unusedVariables false
set_option linter.unusedSimpArgs false
open Go.RowKit Go.Proofs.YtiemjhoadobigaaW.PrintWords Go.Proofs.YtiemjhoadobigaaW.PrintLast Go.Proofs.YtiemjhoadobigaaW.PrintMore
open Go.Proofs.Ytiemjhoadobigaa.XPrefixBack (montageref01_Text.f montageref01_Text.l0 montageref01_Text.l1)
/-- The bytes of a number. -/
def by8 (Y q : Nat) : List Int := (List.range q).map (fun i => ((Y / 256 ^ i % 256 : Nat) : Int))
theorem by8_len (Y q : Nat) : (by8 Y q).length = q := by simp [by8]
theorem by8_succ (Y q : Nat) : by8 Y (q + 1) = by8 Y q ++ [((Y / 256 ^ q % 256 : Nat) : Int)] := by simp [by8, List.range_succ]
theorem text_l1 (c : List Int) (Y : Nat) (hS : c.length ≤ 8000000) (hc : ∀ i, i < c.length → rd c (i : Int) = ((Y / 2 ^ i % 2 : Nat) : Int)) (hY : Y < 2 ^ c.length) (q : Nat) (hq : 8 * q < c.length) (r : ByteArray)
    (h : Ev (fun k => montageref01_Text.l0 k c (by8 Y (q + 1)) ((8 * (q + 1) : Nat) : Int)) r) : ∀ m : Nat, m ≤ 8 → Ev (fun k => montageref01_Text.l1 k c (by8 Y q) ((8 * q : Nat) : Int) ((Y / 2 ^ (8 * q + m) % 2 ^ (8 - m) : Nat) : Int) ((m : Int) - 1)) r := by
  intro m
  induction m with
  | zero =>
    intro _
    refine Ev.step (fun k => ?_) h
    have h1 : Y / 2 ^ (8 * q + 0) % 2 ^ (8 - 0) < 256 := Nat.mod_lt _ (by decide)
    have e1 : (((Y / 2 ^ (8 * q + 0) % 2 ^ (8 - 0) : Nat) : Int)) % 256 = ((Y / 256 ^ q % 256 : Nat) : Int) := by
      rw [show (2 : Nat) ^ (8 * q + 0) = 256 ^ q from by rw [Nat.add_zero, Nat.pow_mul], show (2 : Nat) ^ (8 - 0) = 256 from rfl]
      generalize Y / 256 ^ q = z
      omega
    simp only [montageref01_Text.l1]
    rw [if_neg (by omega), if_pos (by rw [by8_len]; omega), e1, w64 (by omega) (by omega), ← by8_succ, show ((8 * q : Nat) : Int) + 8 = ((8 * (q + 1) : Nat) : Int) from by omega]
  | succ m ih =>
    intro hm
    refine Ev.step (fun k => ?_) (ih (by omega))
    have h1 : Y / 2 ^ (8 * q + (m + 1)) % 2 ^ (8 - (m + 1)) < 2 ^ (8 - (m + 1)) := Nat.mod_lt _ (Nat.two_pow_pos _)
    have h2 : 2 ^ (8 - (m + 1)) ≤ 2 ^ 8 := Nat.pow_le_pow_right (by omega) (by omega)
    have e0 : Y / 2 ^ (8 * q + (m + 1)) = Y / 2 ^ (8 * q + m) / 2 := by rw [← Nat.add_assoc, Nat.pow_succ, Nat.div_div_eq_div_mul]
    have e1 := mod_step (Y / 2 ^ (8 * q + m)) (8 - (m + 1))
    rw [← e0, show 8 - (m + 1) + 1 = 8 - m from by omega] at e1
    have h5 : Y / 2 ^ (8 * q + m) % 2 < 2 := Nat.mod_lt _ (by omega)
    have hrd := hc (8 * q + m)
    have hz : ¬ 8 * q + m < c.length → Y / 2 ^ (8 * q + m) % 2 = 0 := by
      intro hn
      rw [Nat.div_eq_of_lt (Nat.lt_of_lt_of_le hY (Nat.pow_le_pow_right (by omega) (by omega)))]
    generalize Y / 2 ^ (8 * q + (m + 1)) % 2 ^ (8 - (m + 1)) = u at *
    generalize Y / 2 ^ (8 * q + m) % 2 = v at *
    simp only [montageref01_Text.l1]
    rw [if_pos (by omega), show ((m + 1 : Nat) : Int) - 1 = (m : Int) from by omega, w64 (x := ((8 * q : Nat) : Int) + m) (by omega) (by omega), show ((8 * q : Nat) : Int) + m = ((8 * q + m : Nat) : Int) from by omega]
    by_cases hlt : 8 * q + m < c.length
    · rw [if_pos (by omega), if_pos (by omega), hrd hlt, w64 (x := 2 * (u : Int)) (by omega) (by omega), w64 (x := (v : Int)) (by omega) (by omega), w64 (by omega) (by omega), w64 (by omega) (by omega), ← e1, show 2 * (u : Int) + (v : Int) = ((2 * u + v : Nat) : Int) from by omega]
    · have hv := hz hlt
      rw [if_neg (by omega), w64 (by omega) (by omega), w64 (by omega) (by omega), ← e1, hv, show 2 * (u : Int) = ((2 * u + 0 : Nat) : Int) from by omega]
theorem text_l0 (c : List Int) (Y : Nat) (hS : c.length ≤ 8000000) (hc : ∀ i, i < c.length → rd c (i : Int) = ((Y / 2 ^ i % 2 : Nat) : Int)) (hY : Y < 2 ^ c.length) :
    ∀ (d q : Nat), (c.length + 7) / 8 - q = d → q ≤ (c.length + 7) / 8 → Ev (fun k => montageref01_Text.l0 k c (by8 Y q) ((8 * q : Nat) : Int)) (strOfNums (by8 Y ((c.length + 7) / 8))) := by
  intro d
  induction d with
  | zero =>
    intro q hd hq
    obtain rfl : q = (c.length + 7) / 8 := by omega
    refine Ev.step (f := fun _ => some (strOfNums (by8 Y ((c.length + 7) / 8)))) (fun k => ?_) (Ev.now _)
    simp only [montageref01_Text.l0]
    rw [if_neg (by omega)]
  | succ d ih =>
    intro q hd hq
    have h := text_l1 c Y hS hc hY q (by omega) _ (ih (q + 1) (by omega) (by omega)) 8 (Nat.le_refl _)
    refine Ev.step (fun k => ?_) h
    simp only [montageref01_Text.l0]
    rw [if_pos (by omega), Nat.sub_self, Nat.pow_zero, Nat.mod_one]
    rfl
/-- The document's text of bits. -/
theorem ref_text (c : List Int) (Y : Nat) (hS : c.length ≤ 8000000) (hc : ∀ i, i < c.length → rd c (i : Int) = ((Y / 2 ^ i % 2 : Nat) : Int)) (hY : Y < 2 ^ c.length) : Ev (fun k => montageref01_Text.f k c) (strOfNums (by8 Y ((c.length + 7) / 8))) :=
  text_l0 c Y hS hc hY _ 0 rfl (by omega)
theorem ba_ext (s t : ByteArray) (h : s.size = t.size) (hb : ∀ i : Nat, i < s.size → bt s (i : Int) = bt t (i : Int)) : s = t := by
  apply ByteArray.ext
  apply Array.ext
  · exact h
  · intro i h1 h2
    have h3 := hb i h1
    unfold bt at h3
    rw [dif_pos (by rw [Int.toNat_natCast]; exact h1), dif_pos (by rw [Int.toNat_natCast]; exact h2)] at h3
    simp only [Int.toNat_natCast] at h3
    apply UInt8.toNat.inj
    have h4 : ((s.data[i]).toNat : Int) = ((t.data[i]).toNat : Int) := h3
    omega
theorem by8_get (Y q i : Nat) (h : i < q) : (by8 Y q).getD i 0 = ((Y / 256 ^ i % 256 : Nat) : Int) := by
  unfold by8
  rw [List.getD_eq_getElem?_getD, List.getElem?_map, List.getElem?_range h]
  rfl
theorem by8_range (Y q : Nat) : ∀ b ∈ by8 Y q, 0 ≤ b ∧ b < 256 := by
  intro b hb
  unfold by8 at hb
  obtain ⟨i, _, rfl⟩ := List.mem_map.1 hb
  omega
theorem mod_bit (A m i : Nat) (h : i < m) : A % 2 ^ m / 2 ^ i % 2 = A / 2 ^ i % 2 := by
  rw [show m = i + (m - i) from by omega, Nat.pow_add, Nat.mod_mul_right_div_self, Nat.mod_mod_of_dvd _ (by rw [show m - i = 1 + (m - i - 1) from by omega, Nat.pow_add]; exact Nat.dvd_mul_right _ _)]
theorem text_is (B : List Int) (last n : Int) (Z t : Nat) (h : Inv B last n (Z : Int) t) : strOfNums (if n = 0 then B else B ++ [last]) = strOfNums (by8 Z ((t + 7) / 8)) := by
  obtain ⟨h1, h2, h3⟩ := text_reads B last n Z t h
  generalize strOfNums (if n = 0 then B else B ++ [last]) = T at *
  refine ba_ext _ _ (by rw [str_size, by8_len]; omega) fun i hi => ?_
  rw [h3 i hi, str_get _ _ (by rw [by8_len]; omega) (by8_range _ _), by8_get _ _ _ (by omega)]
theorem rtext_is (Z t : Nat) (ht : t ≤ 8000000) (hZ : Z < 2 ^ t) : Ev (fun k => montageref01_Text.f k (bl Z t)) (strOfNums (by8 Z ((t + 7) / 8))) := by
  have h := ref_text (bl Z t) Z (by rw [bl_len]; exact ht) (fun i hi => bl_get _ _ _ (by rw [bl_len] at hi; exact hi)) (by rw [bl_len]; exact hZ)
  rw [bl_len] at h
  exact h
theorem bl_app (Z t x M : Nat) (hZ : Z < 2 ^ t) : bl Z t ++ bl x M = bl (Z + (x % 2 ^ M) * 2 ^ t) (t + M) := by
  apply List.ext_getElem
  · simp [bl_len]
  · intro i h1 h2
    simp [bl_len] at h1 h2
    simp only [bl, List.getElem_append, List.getElem_map, List.getElem_range, List.length_map, List.length_range]
    split
    · rename_i hi
      congr 1
      rw [show (2 : Nat) ^ t = 2 ^ i * 2 ^ (t - i) from by rw [← Nat.pow_add]; congr 1; omega, ← Nat.mul_assoc, Nat.mul_right_comm, Nat.add_mul_div_right _ _ (Nat.two_pow_pos i), show t - i = (t - i - 1) + 1 from by omega, Nat.pow_succ, ← Nat.mul_assoc]
      omega
    · rename_i hi
      congr 1
      have e1 : Z + x % 2 ^ M * 2 ^ t = Z + 2 ^ t * (x % 2 ^ M) := by rw [Nat.mul_comm]
      rw [show i = t + (i - t) from by omega, Nat.pow_add, ← Nat.div_div_eq_div_mul, e1, Nat.add_mul_div_left _ _ (Nat.two_pow_pos t), Nat.div_eq_of_lt hZ, Nat.zero_add, show t + (i - t) - t = i - t from by omega]
      rw [mod_bit _ _ _ (by omega)]
end Go.Proofs.Ytiemjhoadobigaa.XPrefixReads
