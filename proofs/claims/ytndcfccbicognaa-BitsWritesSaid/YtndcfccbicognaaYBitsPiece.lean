/- The readers of bits: Align and Bytes, as numbers. It has no conditions. -/
import Derived.Test.YtndcfccbicognaaYBitsText
namespace Go.Proofs.Ytndcfccbicognaa.XBitsReads
set_option linter.unusedVariables false
set_option linter.unusedSimpArgs false
open Go.RowKit Go.Proofs.YtndcfccbicognaaW.PrintWords Go.Proofs.YtndcfccbicognaaW.PrintLast Go.Proofs.YtndcfccbicognaaW.PrintMore
theorem andNot7 : ∀ x < 1000, Go.bits .andNot .i64 ((x : Nat) : Int) 7 = ((x / 8 * 8 : Nat) : Int) := by decide +kernel
/-- Both readers go on to the next byte alike. -/
theorem align_ok (S : ByteArray) (p : Nat) (bad : Bool) (hp : p ≤ 800) : bits_Reader_Align.f S (p : Int) bad = some (S, (if bad = true then (p : Int) else (((p + 7) / 8 * 8 : Nat) : Int)), bad) := by
  unfold bits_Reader_Align.f bits_Reader_live.f bits_Reader_aligned.f
  simp only [Option.bind_some]
  cases bad
  · rw [if_pos (by decide), if_neg (by decide), w64 (x := (p : Int) + 8) (by omega) (by omega), w64 (by omega) (by omega), show (p : Int) + 8 - 1 = ((p + 7 : Nat) : Int) from by omega, andNot7 _ (by omega)]
  · rw [if_neg (by decide), if_pos rfl]
theorem ralign_ok (b : List Int) (p : Nat) (bad : Bool) (hp : p ≤ 800) : montageref01_Reader_Align.f b (p : Int) bad = some ((if bad = true then (p : Int) else (((p + 7) / 8 * 8 : Nat) : Int)), bad) := by
  unfold montageref01_Reader_Align.f
  cases bad
  · rw [if_neg (by decide), if_neg (by decide), w64 (x := (p : Int) + 7) (by omega) (by omega), Int.tdiv_eq_ediv_of_nonneg (by omega), w64 (x := ((p : Int) + 7) / 8) (by omega) (by omega), w64 (by omega) (by omega), show ((p : Int) + 7) / 8 * 8 = (((p + 7) / 8 * 8 : Nat) : Int) from by omega]
  · rw [if_pos rfl, if_pos rfl]
def alof (p : Int) : Int := Go.bits .andNot .i64 (wrap64 ((wrap64 (p + 8)) - 1)) 7
theorem bytes_eq (S : ByteArray) (p : Int) (bad : Bool) (n : Int) : bits_Reader_Bytes.f S p bad n = (if (!bad) = true then (if n < 0 then some ((⟨#[]⟩ : ByteArray), S, p, true) else (if n > wrap64 ((S.size : Int) - wrap64 (Int.tdiv (alof p) 8)) then some ((⟨#[]⟩ : ByteArray), S, p, true) else (if 0 ≤ wrap64 (Int.tdiv (alof p) 8) then (if wrap64 (Int.tdiv (alof p) 8) ≤ wrap64 (wrap64 (Int.tdiv (alof p) 8) + n) then (if wrap64 (wrap64 (Int.tdiv (alof p) 8) + n) ≤ (S.size : Int) then some (S.extract (wrap64 (Int.tdiv (alof p) 8)).toNat (wrap64 (wrap64 (Int.tdiv (alof p) 8) + n)).toNat, S, wrap64 (8 * wrap64 (wrap64 (Int.tdiv (alof p) 8) + n)), bad) else none) else none) else none))) else some ((⟨#[]⟩ : ByteArray), S, p, bad)) := rfl
theorem alof_ok (p : Nat) (hp : p ≤ 800) : wrap64 (Int.tdiv (alof p) 8) = (((p + 7) / 8 : Nat) : Int) := by
  unfold alof
  rw [w64 (x := (p : Int) + 8) (by omega) (by omega), w64 (x := (p : Int) + 8 - 1) (by omega) (by omega), show (p : Int) + 8 - 1 = ((p + 7 : Nat) : Int) from by omega, andNot7 _ (by omega), Int.tdiv_eq_ediv_of_nonneg (by omega), w64 (by omega) (by omega)]
  omega
/-- Bytes: the piece, or it fails. -/
theorem bytes_ok (S : ByteArray) (p q n : Nat) (hS : S.size ≤ 100) (hp : p ≤ 8 * S.size) (hq : (p + 7) / 8 = q) (hn : q + n ≤ S.size) : bits_Reader_Bytes.f S (p : Int) false (n : Int) = some (S.extract q (q + n), S, ((8 * (q + n) : Nat) : Int), false) := by
  have h1 := alof_ok p (by omega)
  rw [hq] at h1
  have e1 : wrap64 ((S.size : Int) - (q : Int)) = (S.size : Int) - (q : Int) := w64 (by omega) (by omega)
  have e2 : wrap64 ((q : Int) + (n : Int)) = ((q + n : Nat) : Int) := by rw [w64 (by omega) (by omega)]; omega
  have e3 : wrap64 (8 * ((q + n : Nat) : Int)) = ((8 * (q + n) : Nat) : Int) := by rw [w64 (by omega) (by omega)]; omega
  rw [bytes_eq, h1, e1, e2, e3, if_pos (by decide), if_neg (by omega), if_neg (by omega), if_pos (by omega), if_pos (by omega), if_pos (by omega), Int.toNat_natCast, Int.toNat_natCast]
theorem bytes_fail (S : ByteArray) (p : Nat) (bad : Bool) (n : Int) (hS : S.size ≤ 100) (hp : p ≤ 8 * S.size) (h : bad = true ∨ n < 0 ∨ (S.size : Int) - ((p + 7) / 8 : Nat) < n) : bits_Reader_Bytes.f S (p : Int) bad n = some ((⟨#[]⟩ : ByteArray), S, (p : Int), true) := by
  have h1 := alof_ok p (by omega)
  obtain ⟨q, hq⟩ : ∃ q, (p + 7) / 8 = q := ⟨_, rfl⟩
  rw [hq] at h1 h
  have e1 : wrap64 ((S.size : Int) - (q : Int)) = (S.size : Int) - (q : Int) := w64 (by omega) (by omega)
  rw [bytes_eq, h1, e1]
  cases bad
  · rw [if_pos (by decide)]
    by_cases h0 : n < 0
    · rw [if_pos h0]
    · rw [if_neg h0, if_pos (by rcases h with h | h | h <;> first | cases h | omega)]
  · rw [if_neg (by decide)]

theorem ba_ext (s t : ByteArray) (h : s.size = t.size) (hb : ∀ i : Nat, i < s.size → bt s (i : Int) = bt t (i : Int)) : s = t := by
  apply ByteArray.ext
  apply Array.ext
  · exact h
  · intro i h1 h2
    have h3 := hb i h1
    unfold bt at h3
    rw [dif_pos (by rw [Int.toNat_natCast]; exact h1), dif_pos (by rw [Int.toNat_natCast]; exact h2)] at h3
    simp only [Int.toNat_natCast] at h3
    apply UInt8.toNat.inj
    have h4 : ((s.data[i]).toNat : Int) = ((t.data[i]).toNat : Int) := h3
    omega
theorem by8_get (Y q i : Nat) (h : i < q) : (by8 Y q).getD i 0 = ((Y / 256 ^ i % 256 : Nat) : Int) := by
  unfold by8
  rw [List.getD_eq_getElem?_getD, List.getElem?_map, List.getElem?_range h]
  rfl
theorem by8_range (Y q : Nat) : ∀ b ∈ by8 Y q, 0 ≤ b ∧ b < 256 := by
  intro b hb
  unfold by8 at hb
  obtain ⟨i, _, rfl⟩ := List.mem_map.1 hb
  omega
theorem bt_piece (s : ByteArray) (a b i : Nat) (h : a + i < b) (hb : b ≤ s.size) : bt (s.extract a b) (i : Int) = bt s ((a + i : Nat) : Int) := by
  have hsz : (s.extract a b).size = b - a := by rw [ByteArray.size_extract]; omega
  unfold bt
  rw [dif_pos (by rw [Int.toNat_natCast]; omega), dif_pos (by rw [Int.toNat_natCast]; omega)]
  simp only [Int.toNat_natCast, ByteArray.getElem_extract]
/-- A piece of a text, as the bytes of a number. -/
theorem piece (S : ByteArray) (Z q n : Nat) (hZ : ∀ i, i < S.size → bt S (i : Int) = ((Z / 256 ^ i % 256 : Nat) : Int)) (hn : q + n ≤ S.size) : strOfNums (by8 (Z / 2 ^ (8 * q) % 2 ^ (8 * n)) n) = S.extract q (q + n) := by
  have hsz : (S.extract q (q + n)).size = n := by rw [ByteArray.size_extract]; omega
  refine ba_ext _ _ (by rw [str_size, by8_len, hsz]) fun i hi => ?_
  rw [str_size, by8_len] at hi
  rw [str_get _ _ (by rw [by8_len]; exact hi) (by8_range _ _), by8_get _ _ _ hi, bt_piece S q (q + n) i (by omega) hn, hZ _ (by omega)]
  congr 1
  rw [show 8 * n = 8 * i + (8 * (n - i)) from by omega, Nat.pow_add, show (256 : Nat) ^ i = 2 ^ (8 * i) from by rw [Nat.pow_mul], Nat.mod_mul_right_div_self, Nat.mod_mod_of_dvd _ (by rw [show 8 * (n - i) = 8 + 8 * (n - i - 1) from by omega, Nat.pow_add]; exact Nat.dvd_mul_right _ _), Nat.div_div_eq_div_mul, ← Nat.pow_add, show 8 * q + 8 * i = 8 * (q + i) from by omega, Nat.pow_mul]
theorem mod_bit (A m i : Nat) (h : i < m) : A % 2 ^ m / 2 ^ i % 2 = A / 2 ^ i % 2 := by
  rw [show m = i + (m - i) from by omega, Nat.pow_add, Nat.mod_mul_right_div_self, Nat.mod_mod_of_dvd _ (by rw [show m - i = 1 + (m - i - 1) from by omega, Nat.pow_add]; exact Nat.dvd_mul_right _ _)]
theorem bl_piece (Z m a e : Nat) (he : e ≤ m) (hae : a ≤ e) : ((bl Z m).take e).drop a = bl (Z / 2 ^ a % 2 ^ (e - a)) (e - a) := by
  apply List.ext_getElem
  · simp [bl_len]; omega
  · intro i h1 h2
    simp [bl_len] at h1 h2
    simp only [bl, List.getElem_drop, List.getElem_take, List.getElem_map, List.getElem_range]
    congr 1
    have hi : i < e - a := by omega
    rw [mod_bit _ _ _ hi, Nat.div_div_eq_div_mul, ← Nat.pow_add]
/-- The document's text of a piece. -/
theorem ref_piece (S : ByteArray) (Z q n : Nat) (hS : S.size ≤ 100) (hZ : ∀ i, i < S.size → bt S (i : Int) = ((Z / 256 ^ i % 256 : Nat) : Int)) (hn : q + n ≤ S.size) :
    Ev (fun k => montageref01_Text.f k (((bl Z (8 * S.size)).take (8 * (q + n))).drop (8 * q))) (S.extract q (q + n)) := by
  rw [bl_piece Z (8 * S.size) (8 * q) (8 * (q + n)) (by omega) (by omega), show 8 * (q + n) - 8 * q = 8 * n from by omega]
  have h := ref_text (bl (Z / 2 ^ (8 * q) % 2 ^ (8 * n)) (8 * n)) (Z / 2 ^ (8 * q) % 2 ^ (8 * n)) (by rw [bl_len]; omega) (fun i hi => bl_get _ _ _ (by rw [bl_len] at hi; exact hi)) (by rw [bl_len]; exact Nat.mod_lt _ (Nat.two_pow_pos _))
  rw [bl_len, show (8 * n + 7) / 8 = n from by omega, piece S Z q n hZ hn] at h
  exact h
end Go.Proofs.Ytndcfccbicognaa.XBitsReads
