/- The writers of bits, as numbers. It has no conditions. -/
import Derived.Test.YtndcfccbicognaaYBitsPiece
namespace Go.Proofs.Ytndcfccbicognaa.XBitsReads
set_option linter.unusedVariables false
set_option linter.unusedSimpArgs false
open Go.RowKit Go.Proofs.YtndcfccbicognaaW.PrintWords Go.Proofs.YtndcfccbicognaaW.PrintLast Go.Proofs.YtndcfccbicognaaW.PrintMore

/-- The text that a writer has is the bytes of its number. -/
theorem text_is (B : List Int) (last n : Int) (Z t : Nat) (h : Inv B last n (Z : Int) t) : strOfNums (if n = 0 then B else B ++ [last]) = strOfNums (by8 Z ((t + 7) / 8)) := by
  obtain ⟨h1, h2, h3⟩ := text_reads B last n Z t h
  generalize strOfNums (if n = 0 then B else B ++ [last]) = T at *
  refine ba_ext _ _ (by rw [str_size, by8_len]; omega) fun i hi => ?_
  rw [h3 i hi, str_get _ _ (by rw [by8_len]; omega) (by8_range _ _), by8_get _ _ _ (by omega)]
/-- .. and the document's. -/
theorem rtext_is (Z t : Nat) (ht : t ≤ 8000000) (hZ : Z < 2 ^ t) : Ev (fun k => montageref01_Text.f k (bl Z t)) (strOfNums (by8 Z ((t + 7) / 8))) := by
  have h := ref_text (bl Z t) Z (by rw [bl_len]; exact ht) (fun i hi => bl_get _ _ _ (by rw [bl_len] at hi; exact hi)) (by rw [bl_len]; exact hZ)
  rw [bl_len] at h
  exact h
theorem bl_app (Z t x M : Nat) (hZ : Z < 2 ^ t) : bl Z t ++ bl x M = bl (Z + (x % 2 ^ M) * 2 ^ t) (t + M) := by
  apply List.ext_getElem
  · simp [bl_len]
  · intro i h1 h2
    simp [bl_len] at h1 h2
    simp only [bl, List.getElem_append, List.getElem_map, List.getElem_range, List.length_map, List.length_range]
    split
    · rename_i hi
      congr 1
      rw [show (2 : Nat) ^ t = 2 ^ i * 2 ^ (t - i) from by rw [← Nat.pow_add]; congr 1; omega, ← Nat.mul_assoc, Nat.mul_right_comm, Nat.add_mul_div_right _ _ (Nat.two_pow_pos i), show t - i = (t - i - 1) + 1 from by omega, Nat.pow_succ, ← Nat.mul_assoc]
      omega
    · rename_i hi
      congr 1
      have e1 : Z + x % 2 ^ M * 2 ^ t = Z + 2 ^ t * (x % 2 ^ M) := by rw [Nat.mul_comm]
      rw [show i = t + (i - t) from by omega, Nat.pow_add, ← Nat.div_div_eq_div_mul, e1, Nat.add_mul_div_left _ _ (Nat.two_pow_pos t), Nat.div_eq_of_lt hZ, Nat.zero_add, show t + (i - t) - t = i - t from by omega]
      rw [mod_bit _ _ _ (by omega)]
theorem bl_zeros (Z t d : Nat) (hZ : Z < 2 ^ t) : bl Z (t + d) = bl Z t ++ List.replicate d 0 := by
  have h := bl_app Z t 0 d hZ
  rw [Nat.zero_mod, Nat.zero_mul, Nat.add_zero] at h
  rw [← h]
  congr 1
  apply List.ext_getElem
  · simp [bl_len]
  · intro i h1 h2
    simp [bl]
theorem put_lt (Z t x M : Nat) (hZ : Z < 2 ^ t) : Z + (x % 2 ^ M) * 2 ^ t < 2 ^ (t + M) := by
  have h1 : x % 2 ^ M < 2 ^ M := Nat.mod_lt _ (Nat.two_pow_pos M)
  have h2 : (x % 2 ^ M + 1) * 2 ^ t ≤ 2 ^ M * 2 ^ t := Nat.mul_le_mul_right _ h1
  rw [Nat.add_mul, Nat.one_mul] at h2
  rw [Nat.pow_add, Nat.mul_comm (2 ^ t)]
  omega
theorem NB_append (A B : List Int) : NB (A ++ B) = NB A + NB B * 256 ^ A.length := by
  induction A with
  | nil => simp [NB]
  | cons a L ih =>
    simp only [List.cons_append, NB, ih, List.length_cons, Int.pow_succ]
    rw [Int.mul_add, Int.add_assoc]
    congr 2
    rw [Int.mul_left_comm, Int.mul_comm 256]
theorem NB_lt : ∀ (X : List Int), (∀ b ∈ X, 0 ≤ b ∧ b < 256) → NB X < 256 ^ X.length
  | [], _ => by simp [NB]
  | b :: L, h => by
    have h1 := h b (List.mem_cons_self ..)
    have h2 := NB_lt L fun c hc => h c (List.mem_cons_of_mem _ hc)
    simp only [NB, List.length_cons, Int.pow_succ]
    omega
theorem bytes_range (S : ByteArray) : ∀ b ∈ bytesOf S, 0 ≤ b ∧ b < 256 := by
  intro b hb
  unfold bytesOf at hb
  obtain ⟨c, _, rfl⟩ := List.mem_map.1 hb
  have := c.toNat_lt
  omega
/-- The number that a text is, no greater than its bits. -/
theorem S_num2 (S : ByteArray) : ∃ Z : Nat, (Z : Int) = NB (bytesOf S) ∧ Z < 2 ^ (8 * S.size) ∧ ∀ i, i < S.size → bt S (i : Int) = ((Z / 256 ^ i % 256 : Nat) : Int) := by
  have hX := bytes_range S
  have h0 := NB_nonneg _ hX
  have hl := NB_lt _ hX
  obtain ⟨Z, hZ⟩ : ∃ Z : Nat, NB (bytesOf S) = Z := ⟨(NB (bytesOf S)).toNat, by omega⟩
  refine ⟨Z, hZ.symm, ?_, fun i hi => ?_⟩
  · rw [hZ, bytesOf_length] at hl
    have e : (256 : Int) ^ S.size = ((2 ^ (8 * S.size) : Nat) : Int) := by rw [Nat.pow_mul]; simp
    rw [e] at hl
    omega
  · have h1 := NB_get (bytesOf S) i hX (by rw [bytesOf_length]; exact hi)
    have h2 := rd_bytesOf S (i : Int)
    unfold rd at h2
    rw [Int.toNat_natCast] at h2
    rw [← h2, h1, hZ]
    simp
/-- Align: the byte that has begun, whole. -/
theorem align_inv (B : List Int) (last n : Int) (Z t : Nat) (h : Inv B last n (Z : Int) t) (hn : 0 < n) : Inv (B ++ [last % 256]) 0 0 (Z : Int) ((t + 7) / 8 * 8) := by
  obtain ⟨h0, h1, h2, h3, h4, h5, h6⟩ := h
  have hl : last < 256 := by
    have h7 : (2 : Nat) ^ n.toNat ≤ 2 ^ 7 := Nat.pow_le_pow_right (by omega) (by omega)
    have : ((2 ^ n.toNat : Nat) : Int) ≤ ((2 ^ 7 : Nat) : Int) := by omega
    have h8 : (2 : Int) ^ n.toNat ≤ 2 ^ 7 := by simpa using this
    omega
  have e : last % 256 = last := by omega
  rw [e]
  refine ⟨by omega, by omega, by omega, by decide, by rw [NB_snoc, h4]; simp, by simp; omega, fun b hb => ?_⟩
  rcases List.mem_append.1 hb with h | h
  · exact h6 b h
  · simp at h; omega
theorem align_inv0 (B : List Int) (last n : Int) (Z t : Nat) (h : Inv B last n (Z : Int) t) (hn : n = 0) : Inv B 0 0 (Z : Int) ((t + 7) / 8 * 8) ∧ last = 0 ∧ 8 * B.length = t := by
  obtain ⟨h0, h1, h2, h3, h4, h5, h6⟩ := h
  subst hn
  have hl : last = 0 := by
    have : last < 1 := by simpa using h3
    omega
  subst hl
  simp at h5
  refine ⟨⟨by omega, by omega, by omega, by decide, by rw [h4], by simp; omega, h6⟩, rfl, by omega⟩
/-- Write: bytes behind whole ones. -/
theorem write_inv (B : List Int) (Z t : Nat) (S : ByteArray) (ZS : Nat) (hS : (ZS : Int) = NB (bytesOf S)) (h : Inv B 0 0 (Z : Int) t) : Inv (B ++ bytesOf S) 0 0 ((Z + ZS * 2 ^ t : Nat) : Int) (t + 8 * S.size) := by
  obtain ⟨h0, h1, h2, h3, h4, h5, h6⟩ := h
  have ht : t = 8 * B.length := by simpa using h5.symm
  refine ⟨by omega, by omega, by omega, by decide, ?_, ?_, fun b hb => ?_⟩
  · rw [NB_append, ← hS, ht]
    have h4' : NB B = (Z : Int) := by rw [← h4]; simp
    rw [h4', Nat.pow_mul]
    simp
  · rw [List.length_append, bytesOf_length]; simp; omega
  · rcases List.mem_append.1 hb with h | h
    · exact h6 b h
    · exact bytes_range S b h
end Go.Proofs.Ytndcfccbicognaa.XBitsReads
