/- The document's text of bits. It has no conditions. -/
import Derived.Test.YtndcfccbicognaaYBitsRead
namespace Go.Proofs.Ytndcfccbicognaa.XBitsReads
set_option linter.unusedVariables false
set_option linter.unusedSimpArgs false
open Go.RowKit Go.Proofs.YtndcfccbicognaaW.PrintWords Go.Proofs.YtndcfccbicognaaW.PrintLast Go.Proofs.YtndcfccbicognaaW.PrintMore

/-- The bytes of a number. -/
def by8 (Y q : Nat) : List Int := (List.range q).map (fun i => ((Y / 256 ^ i % 256 : Nat) : Int))
theorem by8_len (Y q : Nat) : (by8 Y q).length = q := by simp [by8]
theorem by8_succ (Y q : Nat) : by8 Y (q + 1) = by8 Y q ++ [((Y / 256 ^ q % 256 : Nat) : Int)] := by simp [by8, List.range_succ]
theorem text_l1 (c : List Int) (Y : Nat) (hS : c.length ≤ 8000000) (hc : ∀ i, i < c.length → rd c (i : Int) = ((Y / 2 ^ i % 2 : Nat) : Int)) (hY : Y < 2 ^ c.length) (q : Nat) (hq : 8 * q < c.length) (r : ByteArray)
    (h : Ev (fun k => montageref01_Text.l0 k c (by8 Y (q + 1)) ((8 * (q + 1) : Nat) : Int)) r) : ∀ m : Nat, m ≤ 8 → Ev (fun k => montageref01_Text.l1 k c (by8 Y q) ((8 * q : Nat) : Int) ((Y / 2 ^ (8 * q + m) % 2 ^ (8 - m) : Nat) : Int) ((m : Int) - 1)) r := by
  intro m
  induction m with
  | zero =>
    intro _
    refine Ev.step (fun k => ?_) h
    have h1 : Y / 2 ^ (8 * q + 0) % 2 ^ (8 - 0) < 256 := Nat.mod_lt _ (by decide)
    have e1 : (((Y / 2 ^ (8 * q + 0) % 2 ^ (8 - 0) : Nat) : Int)) % 256 = ((Y / 256 ^ q % 256 : Nat) : Int) := by
      rw [show (2 : Nat) ^ (8 * q + 0) = 256 ^ q from by rw [Nat.add_zero, Nat.pow_mul], show (2 : Nat) ^ (8 - 0) = 256 from rfl]
      generalize Y / 256 ^ q = z
      omega
    simp only [montageref01_Text.l1]
    rw [if_neg (by omega), if_pos (by rw [by8_len]; omega), e1, w64 (by omega) (by omega), ← by8_succ, show ((8 * q : Nat) : Int) + 8 = ((8 * (q + 1) : Nat) : Int) from by omega]
  | succ m ih =>
    intro hm
    refine Ev.step (fun k => ?_) (ih (by omega))
    have h1 : Y / 2 ^ (8 * q + (m + 1)) % 2 ^ (8 - (m + 1)) < 2 ^ (8 - (m + 1)) := Nat.mod_lt _ (Nat.two_pow_pos _)
    have h2 : 2 ^ (8 - (m + 1)) ≤ 2 ^ 8 := Nat.pow_le_pow_right (by omega) (by omega)
    have e0 : Y / 2 ^ (8 * q + (m + 1)) = Y / 2 ^ (8 * q + m) / 2 := by rw [← Nat.add_assoc, Nat.pow_succ, Nat.div_div_eq_div_mul]
    have e1 := mod_step (Y / 2 ^ (8 * q + m)) (8 - (m + 1))
    rw [← e0, show 8 - (m + 1) + 1 = 8 - m from by omega] at e1
    have h5 : Y / 2 ^ (8 * q + m) % 2 < 2 := Nat.mod_lt _ (by omega)
    have hrd := hc (8 * q + m)
    have hz : ¬ 8 * q + m < c.length → Y / 2 ^ (8 * q + m) % 2 = 0 := by
      intro hn
      rw [Nat.div_eq_of_lt (Nat.lt_of_lt_of_le hY (Nat.pow_le_pow_right (by omega) (by omega)))]
    generalize Y / 2 ^ (8 * q + (m + 1)) % 2 ^ (8 - (m + 1)) = u at *
    generalize Y / 2 ^ (8 * q + m) % 2 = v at *
    simp only [montageref01_Text.l1]
    rw [if_pos (by omega), show ((m + 1 : Nat) : Int) - 1 = (m : Int) from by omega, w64 (x := ((8 * q : Nat) : Int) + m) (by omega) (by omega), show ((8 * q : Nat) : Int) + m = ((8 * q + m : Nat) : Int) from by omega]
    by_cases hlt : 8 * q + m < c.length
    · rw [if_pos (by omega), if_pos (by omega), hrd hlt, w64 (x := 2 * (u : Int)) (by omega) (by omega), w64 (x := (v : Int)) (by omega) (by omega), w64 (by omega) (by omega), w64 (by omega) (by omega), ← e1, show 2 * (u : Int) + (v : Int) = ((2 * u + v : Nat) : Int) from by omega]
    · have hv := hz hlt
      rw [if_neg (by omega), w64 (by omega) (by omega), w64 (by omega) (by omega), ← e1, hv, show 2 * (u : Int) = ((2 * u + 0 : Nat) : Int) from by omega]
theorem text_l0 (c : List Int) (Y : Nat) (hS : c.length ≤ 8000000) (hc : ∀ i, i < c.length → rd c (i : Int) = ((Y / 2 ^ i % 2 : Nat) : Int)) (hY : Y < 2 ^ c.length) :
    ∀ (d q : Nat), (c.length + 7) / 8 - q = d → q ≤ (c.length + 7) / 8 → Ev (fun k => montageref01_Text.l0 k c (by8 Y q) ((8 * q : Nat) : Int)) (strOfNums (by8 Y ((c.length + 7) / 8))) := by
  intro d
  induction d with
  | zero =>
    intro q hd hq
    obtain rfl : q = (c.length + 7) / 8 := by omega
    refine Ev.step (f := fun _ => some (strOfNums (by8 Y ((c.length + 7) / 8)))) (fun k => ?_) (Ev.now _)
    simp only [montageref01_Text.l0]
    rw [if_neg (by omega)]
  | succ d ih =>
    intro q hd hq
    have h := text_l1 c Y hS hc hY q (by omega) _ (ih (q + 1) (by omega) (by omega)) 8 (Nat.le_refl _)
    refine Ev.step (fun k => ?_) h
    simp only [montageref01_Text.l0]
    rw [if_pos (by omega), Nat.sub_self, Nat.pow_zero, Nat.mod_one]
    rfl
/-- The document's text of bits. -/
theorem ref_text (c : List Int) (Y : Nat) (hS : c.length ≤ 8000000) (hc : ∀ i, i < c.length → rd c (i : Int) = ((Y / 2 ^ i % 2 : Nat) : Int)) (hY : Y < 2 ^ c.length) : Ev (fun k => montageref01_Text.f k c) (strOfNums (by8 Y ((c.length + 7) / 8))) :=
  text_l0 c Y hS hc hY _ 0 rfl (by omega)
end Go.Proofs.Ytndcfccbicognaa.XBitsReads
