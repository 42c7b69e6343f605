/- bits: what a reader does where it fails, and the document's bits of a text, in this seat. It has no conditions. -/
import Derived.Test.YtiemjhoadobigaaYPrefixNum
namespace Go.Proofs.Ytiemjhoadobigaa.XPrefixReads
set_option linter.unusedVariables false
set_option linter.unusedSimpArgs false
open Go.RowKit Go.Proofs.YtiemjhoadobigaaW.PrintWords Go.Proofs.YtiemjhoadobigaaW.PrintLast Go.Proofs.YtiemjhoadobigaaW.PrintMore
theorem mod_step (A m : Nat) : 2 * (A / 2 % 2 ^ m) + A % 2 = A % 2 ^ (m + 1) := by
  rw [Nat.pow_succ, Nat.mul_comm (2 ^ m), Nat.mod_mul]
  omega
theorem fails (S : ByteArray) (p : Nat) (n : Int) (hp : p ≤ 8 * S.size) (hS : S.size ≤ 1000000) (h : n < 0 ∨ 32 < n ∨ 8 * (S.size : Int) - p < n) :
    Ev (fun k => bits_Reader_Bits.f k S (p : Int) false n) ((0 : Int), S, (p : Int), true) := by
  have hj : Ev (fun k => bits_Reader_Bits.j0 k n true S (p : Int) false) ((0 : Int), S, (p : Int), true) := by
    refine Ev.step (f := fun _ => some ((0 : Int), S, (p : Int), true)) (fun k => ?_) (Ev.now _)
    simp only [bits_Reader_Bits.j0]
    rw [if_pos trivial]
  refine Ev.congr (fun k => ?_) hj
  unfold bits_Reader_Bits.f bits_Reader_live.f bits_Reader_Left.f
  simp only [Option.bind_some]
  rw [if_pos (by decide)]
  by_cases h1 : n < 0
  · rw [if_pos h1]
  · rw [if_neg h1]
    by_cases h2 : n > 32
    · rw [if_pos h2]
    · rw [if_neg h2, w64 (x := 8 * (S.size : Int)) (by omega) (by omega), w64 (by omega) (by omega)]
      have h3 : 8 * (S.size : Int) - p < n := by omega
      rw [decide_eq_true (show n > 8 * (S.size : Int) - (p : Int) from h3)]
theorem dead (S : ByteArray) (p n : Int) : Ev (fun k => bits_Reader_Bits.f k S p true n) ((0 : Int), S, p, true) := by
  refine Ev.congr (f := fun _ => some ((0 : Int), S, p, true)) (fun k => ?_) (Ev.now _)
  rfl

/-- The number that a text is. -/
theorem S_num (S : ByteArray) : ∃ Z : Nat, ∀ i, i < S.size → bt S (i : Int) = ((Z / 256 ^ i % 256 : Nat) : Int) := by
  have hX : ∀ b ∈ bytesOf S, 0 ≤ b ∧ b < 256 := by
    intro b hb
    unfold bytesOf at hb
    obtain ⟨c, _, rfl⟩ := List.mem_map.1 hb
    have := c.toNat_lt
    omega
  have h0 := NB_nonneg _ hX
  obtain ⟨Z, hZ⟩ : ∃ Z : Nat, NB (bytesOf S) = Z := ⟨(NB (bytesOf S)).toNat, by omega⟩
  refine ⟨Z, fun i hi => ?_⟩
  have h1 := NB_get (bytesOf S) i hX (by rw [bytesOf_length]; exact hi)
  have h2 := rd_bytesOf S (i : Int)
  unfold rd at h2
  rw [Int.toNat_natCast] at h2
  rw [← h2, h1, hZ]
  simp
/-- The bits of a number. -/
def bl (Z m : Nat) : List Int := (List.range m).map (fun i => ((Z / 2 ^ i % 2 : Nat) : Int))
theorem bl_len (Z m : Nat) : (bl Z m).length = m := by simp [bl]
theorem bl_succ (Z m : Nat) : bl Z (m + 1) = bl Z m ++ [((Z / 2 ^ m % 2 : Nat) : Int)] := by simp [bl, List.range_succ]
theorem bl_get (Z m i : Nat) (h : i < m) : rd (bl Z m) (i : Int) = ((Z / 2 ^ i % 2 : Nat) : Int) := by
  unfold rd bl
  rw [Int.toNat_natCast, List.getD_eq_getElem?_getD, List.getElem?_map, List.getElem?_range h]
  rfl
theorem bit_of_byte (Z k j : Nat) (hj : j < 8) : Z / 256 ^ k % 256 / 2 ^ j % 2 = Z / 2 ^ (8 * k + j) % 2 := by
  rw [show (256 : Nat) = 2 ^ j * 2 ^ (8 - j) from by rw [← Nat.pow_add, show j + (8 - j) = 8 from by omega], Nat.mod_mul_right_div_self, Nat.mod_mod_of_dvd _ (by rw [show 8 - j = (7 - j) + 1 from by omega, Nat.pow_succ]; exact Nat.dvd_mul_left 2 _), Nat.div_div_eq_div_mul]
  rw [← Nat.pow_add, show j + (8 - j) = 8 from by omega, ← Nat.pow_mul, ← Nat.pow_add]
theorem of_l1 (S : ByteArray) (Z : Nat) (hS : S.size ≤ 1000000) (hZ : ∀ i, i < S.size → bt S (i : Int) = ((Z / 256 ^ i % 256 : Nat) : Int)) (k : Nat) (hk : k < S.size) (r : List Int)
    (h : Ev (fun q => montageref01_Of.l0 q S (bl Z (8 * (k + 1))) ((k + 1 : Nat) : Int)) r) : ∀ (d j : Nat), 8 - j = d → j ≤ 8 → Ev (fun q => montageref01_Of.l1 q S (bl Z (8 * k + j)) (k : Int) ((Z / 256 ^ k % 256 / 2 ^ j : Nat) : Int) (j : Int)) r := by
  intro d
  induction d with
  | zero =>
    intro j hd hj
    obtain rfl : j = 8 := by omega
    refine Ev.step (fun q => ?_) h
    simp only [montageref01_Of.l1]
    rw [if_neg (by omega), w64 (by omega) (by omega), show (k : Int) + 1 = ((k + 1 : Nat) : Int) from by omega, show 8 * k + 8 = 8 * (k + 1) from by omega]
  | succ d ih =>
    intro j hd hj
    have h1 := bit_of_byte Z k j (by omega)
    have h2 : Z / 256 ^ k % 256 / 2 ^ j ≤ Z / 256 ^ k % 256 := Nat.div_le_self _ _
    have h3 : Z / 256 ^ k % 256 < 256 := Nat.mod_lt _ (by decide)
    have h4 := Nat.lt_of_le_of_lt h2 h3
    have e3 : Z / 256 ^ k % 256 / 2 ^ (j + 1) = Z / 256 ^ k % 256 / 2 ^ j / 2 := by rw [Nat.pow_succ, Nat.div_div_eq_div_mul]
    have ih1 := ih (j + 1) (by omega) (by omega)
    rw [e3] at ih1
    clear ih h2 h3 e3
    generalize Z / 256 ^ k % 256 / 2 ^ j = c at *
    have e1 : Int.tmod (c : Int) 2 % 256 = ((c % 2 : Nat) : Int) := by rw [Int.tmod_eq_emod_of_nonneg (by omega)]; omega
    have e2 : Int.tdiv (c : Int) 2 = ((c / 2 : Nat) : Int) := by rw [Int.tdiv_eq_ediv_of_nonneg (by omega)]; omega
    refine Ev.step (fun q => ?_) ih1
    simp only [montageref01_Of.l1]
    rw [if_pos (by omega), if_pos (by rw [bl_len]; omega), e1, e2, h1, w64 (x := ((c / 2 : Nat) : Int)) (by omega) (by omega), w64 (by omega) (by omega), ← bl_succ, show (j : Int) + 1 = ((j + 1 : Nat) : Int) from by omega, Nat.add_assoc]
theorem of_l0 (S : ByteArray) (Z : Nat) (hS : S.size ≤ 1000000) (hZ : ∀ i, i < S.size → bt S (i : Int) = ((Z / 256 ^ i % 256 : Nat) : Int)) :
    ∀ (d k : Nat), S.size - k = d → k ≤ S.size → Ev (fun q => montageref01_Of.l0 q S (bl Z (8 * k)) (k : Int)) (bl Z (8 * S.size)) := by
  intro d
  induction d with
  | zero =>
    intro k hd hk
    obtain rfl : k = S.size := by omega
    refine Ev.step (f := fun _ => some (bl Z (8 * S.size))) (fun q => ?_) (Ev.now _)
    simp only [montageref01_Of.l0]
    rw [if_neg (by omega)]
  | succ d ih =>
    intro k hd hk
    have h := of_l1 S Z hS hZ k (by omega) _ (ih (k + 1) (by omega) (by omega)) 8 0 rfl (by omega)
    have h3 : Z / 256 ^ k % 256 < 256 := Nat.mod_lt _ (by decide)
    refine Ev.step (fun q => ?_) h
    simp only [montageref01_Of.l0]
    rw [if_pos (by omega), if_pos (by omega), hZ k (by omega), w64 (by omega) (by omega), Nat.pow_zero, Nat.div_one, Nat.add_zero]
    rfl
/-- The document's bits of a text. -/
theorem ref_of (S : ByteArray) (Z : Nat) (hS : S.size ≤ 1000000) (hZ : ∀ i, i < S.size → bt S (i : Int) = ((Z / 256 ^ i % 256 : Nat) : Int)) : Ev (fun q => montageref01_Of.f q S) (bl Z (8 * S.size)) :=
  of_l0 S Z hS hZ S.size 0 rfl (by omega)
end Go.Proofs.Ytiemjhoadobigaa.XPrefixReads
