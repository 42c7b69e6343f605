/- bits: numbers, bytes and what a reader reads, in this seat. It has no conditions. -/
import Derived.Test.YtiemjhoadobigaaYPrefixBits
import Derived.Laws.BitsAllLaws
namespace Go.Proofs.Ytiemjhoadobigaa.XPrefixReads
set_option linter.unusedVariables false
set_option linter.unusedSimpArgs false
open Go.RowKit Go.Proofs.YtiemjhoadobigaaW.PrintWords Go.Proofs.YtiemjhoadobigaaW.PrintLast Go.Proofs.YtiemjhoadobigaaW.PrintMore

/-- The number that bytes are, the lowest first. -/
def NB : List Int → Int
  | [] => 0
  | b :: L => b + 256 * NB L
theorem NB_snoc (B : List Int) (t : Int) : NB (B ++ [t]) = NB B + t * 256 ^ B.length := by
  induction B with
  | nil => simp [NB]
  | cons b L ih =>
    simp only [List.cons_append, NB, ih, List.length_cons, Int.pow_succ]
    rw [Int.mul_add, Int.add_assoc]
    congr 2
    rw [Int.mul_left_comm, Int.mul_comm 256]
/-- A writer holds the number Z, of t bits. -/
def Inv (B : List Int) (last n Z : Int) (t : Nat) : Prop :=
  0 ≤ n ∧ n < 8 ∧ 0 ≤ last ∧ last < 2 ^ n.toNat ∧ NB B + last * 256 ^ B.length = Z ∧ 8 * B.length + n.toNat = t ∧ ∀ b ∈ B, 0 ≤ b ∧ b < 256

theorem fl_inv : ∀ (k : Nat) (B : List Int) (T : Int) (m : Nat), 0 ≤ T → T < 2 ^ m → m < 8 * (k + 1) → (∀ b ∈ B, 0 ≤ b ∧ b < 256) →
    Inv (fl k B T (m : Int)).1 (fl k B T (m : Int)).2.1 (fl k B T (m : Int)).2.2 (NB B + T * 256 ^ B.length) (8 * B.length + m)
  | 0, B, T, m, h0, h1, h2, hb => by
    rw [fl]
    exact ⟨by show (0 : Int) ≤ (m : Int); omega, by show (m : Int) < 8; omega, h0, by show T < 2 ^ (m : Int).toNat; rw [Int.toNat_natCast]; exact h1, rfl, by show _ + (m : Int).toNat = _; rw [Int.toNat_natCast], hb⟩
  | k + 1, B, T, m, h0, h1, h2, hb => by
    rw [fl]
    by_cases h8 : 8 ≤ (m : Int)
    · rw [if_pos h8]
      obtain ⟨q, rfl⟩ : ∃ q, m = q + 8 := ⟨m - 8, by omega⟩
      have hp : (2 : Int) ^ (q + 8) = 256 * 2 ^ q := by rw [Int.pow_add, Int.mul_comm]; rfl
      rw [hp] at h1
      have ih := fl_inv k (B ++ [T % 256]) (T / 256) q (by omega) (by omega) (by omega) (fun b hb2 => by
        rcases List.mem_append.1 hb2 with h | h
        · exact hb b h
        · simp at h; omega)
      have e1 : ((q + 8 : Nat) : Int) - 8 = (q : Int) := by omega
      rw [e1]
      have e2 : NB (B ++ [T % 256]) + T / 256 * 256 ^ (B ++ [T % 256]).length = NB B + T * 256 ^ B.length := by
        rw [NB_snoc, List.length_append, List.length_singleton, Int.pow_succ, Int.add_assoc]
        congr 1
        rw [Int.mul_comm (256 ^ B.length) 256, ← Int.mul_assoc, ← Int.add_mul]
        congr 1
        omega
      have e3 : 8 * (B ++ [T % 256]).length + q = 8 * B.length + (q + 8) := by simp; omega
      rw [e2, e3] at ih
      exact ih
    · rw [if_neg h8]
      exact ⟨by show (0 : Int) ≤ (m : Int); omega, by show (m : Int) < 8; omega, h0, by show T < 2 ^ (m : Int).toNat; rw [Int.toNat_natCast]; exact h1, rfl, by show _ + (m : Int).toNat = _; rw [Int.toNat_natCast], hb⟩

theorem or_add (a c n : Nat) (ha : a < 2 ^ n) : a ||| (c * 2 ^ n) = a + c * 2 ^ n := by
  rw [Nat.or_comm, Nat.mul_comm, ← Nat.two_pow_add_eq_or_of_lt ha, Nat.add_comm]
theorem wrap64u (x : Nat) (h : x < 18446744073709551616) : IntKind.u64.wrap (x : Int) = x := by rw [IntKind.wrap_u64]; omega
theorem putT (last x n M : Nat) (hl : last < 2 ^ n) (hx : x < 4294967296) (hn : n < 8) (hM : M ≤ 32) :
    bits BinOp.or IntKind.u64 (last : Int) (IntKind.u64.wrap (bits BinOp.and IntKind.u64 (x : Int) (IntKind.u64.wrap (IntKind.u64.wrap (2 ^ M) - 1)) * 2 ^ n)) = ((last + (x % 2 ^ M) * 2 ^ n : Nat) : Int) := by
  have hM2 : 2 ^ M ≤ 2 ^ 32 := Nat.pow_le_pow_right (by omega) hM
  have hM3 : 0 < 2 ^ M := Nat.two_pow_pos M
  have hn2 : 2 ^ n ≤ 2 ^ 7 := Nat.pow_le_pow_right (by omega) (by omega)
  have e1 : (2 : Int) ^ M = ((2 ^ M : Nat) : Int) := by simp
  have e2 : (2 : Int) ^ n = ((2 ^ n : Nat) : Int) := by simp
  rw [e1, e2, wrap64u _ (by omega), show ((2 ^ M : Nat) : Int) - 1 = ((2 ^ M - 1 : Nat) : Int) from by omega, wrap64u _ (by omega), u64_and_nat _ _ (by omega) (by omega), Nat.and_two_pow_sub_one_eq_mod]
  have hm : x % 2 ^ M < 2 ^ 32 := Nat.lt_of_lt_of_le (Nat.mod_lt _ hM3) hM2
  have hml : (x % 2 ^ M) * 2 ^ n < 2 ^ 39 := by
    calc (x % 2 ^ M) * 2 ^ n ≤ (2 ^ 32 - 1) * 2 ^ 7 := Nat.mul_le_mul (by omega) hn2
      _ < 2 ^ 39 := by decide
  rw [show ((x % 2 ^ M : Nat) : Int) * ((2 ^ n : Nat) : Int) = (((x % 2 ^ M) * 2 ^ n : Nat) : Int) from by rw [Int.natCast_mul], wrap64u _ (by omega), u64_or_nat _ _ (by omega) (by omega), or_add _ _ _ hl]
/-- What a Put leaves holds the number with the new bits above. -/
theorem put_inv (B : List Int) (last n Z : Int) (t : Nat) (x : Int) (M : Nat) (h : Inv B last n Z t) (hx0 : 0 ≤ x) (hx1 : x < 4294967296) (hM : M ≤ 32) :
    bits BinOp.or IntKind.u64 last (IntKind.u64.wrap (bits BinOp.and IntKind.u64 x (IntKind.u64.wrap (IntKind.u64.wrap (2 ^ M) - 1)) * 2 ^ n.toNat)) = last + (x % 2 ^ M) * 2 ^ n.toNat ∧
    0 ≤ last + (x % 2 ^ M) * 2 ^ n.toNat ∧ last + (x % 2 ^ M) * 2 ^ n.toNat < 18446744073709551616 ∧
    Inv (fl 5 B (last + (x % 2 ^ M) * 2 ^ n.toNat) (n + M)).1 (fl 5 B (last + (x % 2 ^ M) * 2 ^ n.toNat) (n + M)).2.1 (fl 5 B (last + (x % 2 ^ M) * 2 ^ n.toNat) (n + M)).2.2 (Z + (x % 2 ^ M) * 2 ^ t) (t + M) := by
  obtain ⟨h0, h1, h2, h3, h4, h5, h6⟩ := h
  obtain ⟨k, rfl⟩ : ∃ k : Nat, n = k := ⟨n.toNat, by omega⟩
  obtain ⟨L, rfl⟩ : ∃ k : Nat, last = k := ⟨last.toNat, by omega⟩
  obtain ⟨X, rfl⟩ : ∃ k : Nat, x = k := ⟨x.toNat, by omega⟩
  rw [Int.toNat_natCast] at h3 h5 ⊢
  have hL : L < 2 ^ k := by
    have : ((L : Nat) : Int) < ((2 ^ k : Nat) : Int) := by simpa using h3
    omega
  have hp := putT L X k M hL (by omega) (by omega) hM
  have e1 : ((L + (X % 2 ^ M) * 2 ^ k : Nat) : Int) = (L : Int) + (X : Int) % 2 ^ M * 2 ^ k := by simp
  have hb : L + (X % 2 ^ M) * 2 ^ k < 2 ^ (k + M) := by
    have hm : X % 2 ^ M < 2 ^ M := Nat.mod_lt _ (Nat.two_pow_pos M)
    calc L + (X % 2 ^ M) * 2 ^ k < 2 ^ k + (X % 2 ^ M) * 2 ^ k := by omega
      _ = (X % 2 ^ M + 1) * 2 ^ k := by rw [Nat.add_mul, Nat.one_mul, Nat.add_comm]
      _ ≤ 2 ^ M * 2 ^ k := Nat.mul_le_mul_right _ hm
      _ = 2 ^ (k + M) := by rw [Nat.add_comm, Nat.pow_add]
  have hb2 : 2 ^ (k + M) ≤ 2 ^ 40 := Nat.pow_le_pow_right (by omega) (by omega)
  have hi := fl_inv 5 B ((L + (X % 2 ^ M) * 2 ^ k : Nat) : Int) (k + M) (by omega) (by have : ((L + (X % 2 ^ M) * 2 ^ k : Nat) : Int) < ((2 ^ (k + M) : Nat) : Int) := by omega
                                                                                       simpa using this) (by omega) h6
  rw [← e1]
  refine ⟨hp, by omega, by omega, ?_⟩
  have e2 : NB B + ((L + (X % 2 ^ M) * 2 ^ k : Nat) : Int) * 256 ^ B.length = Z + (X : Int) % 2 ^ M * 2 ^ t := by
    rw [e1, Int.add_mul, ← Int.add_assoc, h4, Int.mul_assoc, ← h5]
    congr 2
    rw [Nat.add_comm (8 * B.length) k, Int.pow_add, Int.pow_mul]
    rfl
  have e3 : 8 * B.length + (k + M) = t + M := by omega
  rw [e2, e3] at hi
  rw [show ((k : Nat) : Int) + ((M : Nat) : Int) = ((k + M : Nat) : Int) from by omega]
  exact hi

theorem w64 {x : Int} (h0 : -9223372036854775808 ≤ x) (h1 : x < 9223372036854775808) : wrap64 x = x := by unfold wrap64; omega
/-- One round of the reader's loop. -/
theorem read_step (Z : Nat) (j : Nat) (hj : j < 7) : (Go.bits .or .u64 ((Z % 256 ^ j : Nat) : Int) (shl .u64 (IntKind.u64.wrap ((Z / 256 ^ j % 256 : Nat) : Int)) ((8 * j : Nat) : Int))) = ((Z % 256 ^ (j + 1) : Nat) : Int) := by
  have h1 : Z / 256 ^ j % 256 < 256 := Nat.mod_lt _ (by decide)
  have e0 : (256 : Nat) ^ j = 2 ^ (8 * j) := by rw [Nat.pow_mul]
  have h2 : Z % 256 ^ j < 256 ^ j := Nat.mod_lt _ (Nat.pow_pos (by decide))
  have h3 : (2 : Nat) ^ (8 * j) ≤ 2 ^ 48 := Nat.pow_le_pow_right (by omega) (by omega)
  have h4 : (Z / 256 ^ j % 256) * 2 ^ (8 * j) < 2 ^ 56 := by
    calc (Z / 256 ^ j % 256) * 2 ^ (8 * j) ≤ 255 * 2 ^ 48 := Nat.mul_le_mul (by omega) h3
      _ < 2 ^ 56 := by decide
  have e1 : min ((8 * j : Nat) : Int).toNat IntKind.u64.bits = 8 * j := by
    have : IntKind.u64.bits = 64 := rfl
    rw [this, Int.toNat_natCast]; omega
  unfold shl
  rw [e1, wrap64u _ (by omega), show ((Z / 256 ^ j % 256 : Nat) : Int) * 2 ^ (8 * j) = (((Z / 256 ^ j % 256) * 2 ^ (8 * j) : Nat) : Int) from by simp, wrap64u _ (by omega), u64_or_nat _ _ (by omega) (by omega), or_add _ _ _ (by omega)]
  rw [Nat.pow_succ, Nat.mod_mul, ← e0, Nat.mul_comm (256 ^ j)]

theorem read_end (Z p n j : Nat) (hn : n ≤ 32) (hj : j ≤ 5) (hq : n + p % 8 ≤ 8 * j) : (Go.bits .and .u64 (shr .u64 ((Z / 256 ^ (p / 8) % 256 ^ j : Nat) : Int) ((p % 8 : Nat) : Int)) (IntKind.u64.wrap ((shl .u64 1 (n : Int)) - 1))) % 4294967296 = ((Z / 2 ^ p % 2 ^ n : Nat) : Int) := by
  have hb : IntKind.u64.bits = 64 := rfl
  have e1 : min ((n : Nat) : Int).toNat IntKind.u64.bits = n := by rw [hb, Int.toNat_natCast]; omega
  have e2 : min ((p % 8 : Nat) : Int).toNat IntKind.u64.bits = p % 8 := by rw [hb, Int.toNat_natCast]; omega
  have hn2 : 2 ^ n ≤ 2 ^ 32 := Nat.pow_le_pow_right (by omega) hn
  have hn3 : 0 < 2 ^ n := Nat.two_pow_pos n
  have e3 : shl .u64 1 (n : Int) = ((2 ^ n : Nat) : Int) := by
    unfold shl
    rw [e1, Int.one_mul, show (2 : Int) ^ n = ((2 ^ n : Nat) : Int) from by simp, wrap64u _ (by omega)]
  have e4 : shr .u64 ((Z / 256 ^ (p / 8) % 256 ^ j : Nat) : Int) ((p % 8 : Nat) : Int) = ((Z / 256 ^ (p / 8) % 256 ^ j / 2 ^ (p % 8) : Nat) : Int) := by
    unfold shr
    rw [e2]
    simp
  have h5 : Z / 256 ^ (p / 8) % 256 ^ j < 256 ^ j := Nat.mod_lt _ (Nat.pow_pos (by decide))
  have h6 : (256 : Nat) ^ j ≤ 256 ^ 5 := Nat.pow_le_pow_right (by omega) hj
  have h7 : Z / 256 ^ (p / 8) % 256 ^ j / 2 ^ (p % 8) ≤ Z / 256 ^ (p / 8) % 256 ^ j := Nat.div_le_self _ _
  have e5 : (256 : Nat) ^ j = 2 ^ (p % 8) * 2 ^ (8 * j - p % 8) := by rw [← Nat.pow_add, show p % 8 + (8 * j - p % 8) = 8 * j from by omega, Nat.pow_mul]
  have e6 : Z / 256 ^ (p / 8) / 2 ^ (p % 8) = Z / 2 ^ p := by
    rw [Nat.div_div_eq_div_mul, show (256 : Nat) ^ (p / 8) = 2 ^ (8 * (p / 8)) from by rw [Nat.pow_mul], ← Nat.pow_add, show 8 * (p / 8) + p % 8 = p from by omega]
  have e7 : Z / 256 ^ (p / 8) % 256 ^ j / 2 ^ (p % 8) % 2 ^ n = Z / 2 ^ p % 2 ^ n := by
    rw [e5, Nat.mod_mul_right_div_self, Nat.mod_mod_of_dvd _ (Nat.pow_dvd_pow 2 (by omega)), e6]
  rw [e3, e4, show ((2 ^ n : Nat) : Int) - 1 = ((2 ^ n - 1 : Nat) : Int) from by omega, wrap64u _ (by omega), u64_and_nat _ _ (by omega) (by omega), Nat.and_two_pow_sub_one_eq_mod, e7]
  have h8 : Z / 2 ^ p % 2 ^ n < 2 ^ n := Nat.mod_lt _ hn3
  omega
theorem read_l0 (S : ByteArray) (Z p n : Nat) (hn : n ≤ 32) (hp : p + n ≤ 8 * S.size) (hS : S.size ≤ 1000000) (hZ : ∀ i, i < S.size → bt S (i : Int) = ((Z / 256 ^ i % 256 : Nat) : Int)) :
    ∀ (d j : Nat), 6 - j = d → j ≤ 5 → (1 ≤ j → 8 * (j - 1) < n + p % 8) → Ev (fun k => bits_Reader_Bits.l0 k (n : Int) ((Z / 256 ^ (p / 8) % 256 ^ j : Nat) : Int) ((8 * j : Nat) : Int) ((p / 8 + j : Nat) : Int) S (p : Int) false) (((Z / 2 ^ p % 2 ^ n : Nat) : Int), S, ((p + n : Nat) : Int), false) := by
  intro d
  induction d with
  | zero => intro j hd hj; omega
  | succ d ih =>
    intro j hd hj hq
    have et : Int.tmod (p : Int) 8 = ((p % 8 : Nat) : Int) := by rw [Int.tmod_eq_emod_of_nonneg (by omega)]; omega
    by_cases hlt : 8 * j < n + p % 8
    · have hi : p / 8 + j < S.size := by omega
      have hz := hZ _ hi
      have e1 : Z / 256 ^ (p / 8 + j) % 256 = (Z / 256 ^ (p / 8)) / 256 ^ j % 256 := by rw [Nat.div_div_eq_div_mul, ← Nat.pow_add]
      refine Ev.step (fun k => ?_) (ih (j + 1) (by omega) (by omega) (fun _ => by simpa using hlt))
      simp only [bits_Reader_Bits.l0]
      rw [et, w64 (by omega) (by omega), if_pos (by omega), if_pos (by omega), if_pos (by omega), if_pos (by omega), hz, e1, read_step _ _ (by omega), w64 (by omega) (by omega), w64 (by omega) (by omega), show ((8 * j : Nat) : Int) + 8 = ((8 * (j + 1) : Nat) : Int) from by omega, show ((p / 8 + j : Nat) : Int) + 1 = ((p / 8 + (j + 1) : Nat) : Int) from by omega]
    · refine Ev.step (f := fun _ => some (((Z / 2 ^ p % 2 ^ n : Nat) : Int), S, ((p + n : Nat) : Int), false)) (fun k => ?_) (Ev.now _)
      simp only [bits_Reader_Bits.l0]
      rw [et, w64 (by omega) (by omega), if_neg (by omega), if_pos (by omega), if_pos (by omega), w64 (by omega) (by omega)]
      rw [read_end Z p n j hn hj (by omega), show (p : Int) + n = ((p + n : Nat) : Int) from by omega]
/-- What the reader answers. -/
theorem reads (S : ByteArray) (Z p n : Nat) (hn : n ≤ 32) (hp : p + n ≤ 8 * S.size) (hS : S.size ≤ 1000000) (hZ : ∀ i, i < S.size → bt S (i : Int) = ((Z / 256 ^ i % 256 : Nat) : Int)) :
    Ev (fun k => bits_Reader_Bits.f k S (p : Int) false (n : Int)) (((Z / 2 ^ p % 2 ^ n : Nat) : Int), S, ((p + n : Nat) : Int), false) := by
  have h := read_l0 S Z p n hn hp hS hZ 6 0 rfl (by omega) (fun h => by omega)
  have h0 : ((Z / 256 ^ (p / 8) % 256 ^ 0 : Nat) : Int) = 0 := by rw [Nat.pow_zero, Nat.mod_one]; rfl
  have e8 : wrap64 (Int.tdiv (p : Int) 8) = ((p / 8 + 0 : Nat) : Int) := by
    rw [Int.tdiv_eq_ediv_of_nonneg (by omega), w64 (by omega) (by omega)]; omega
  have hj : Ev (fun k => bits_Reader_Bits.j0 k (n : Int) false S (p : Int) false) (((Z / 2 ^ p % 2 ^ n : Nat) : Int), S, ((p + n : Nat) : Int), false) := by
    refine Ev.step (fun k => ?_) h
    simp only [bits_Reader_Bits.j0]
    rw [if_neg (by decide), e8, h0]
    rfl
  refine Ev.congr (fun k => ?_) hj
  unfold bits_Reader_Bits.f bits_Reader_live.f bits_Reader_Left.f
  have hd : decide ((n : Int) > wrap64 (wrap64 (8 * (S.size : Int)) - (p : Int))) = false := by
    rw [w64 (x := 8 * (S.size : Int)) (by omega) (by omega), w64 (by omega) (by omega)]
    exact decide_eq_false (by omega)
  simp only [Option.bind_some]
  rw [if_pos (by decide), if_neg (by omega), if_neg (by omega), hd]
/-! #### struct type 28: a deed -/
structure S28 where
  f0 : Int
  f1 : Int
  f2 : Int
  f3 : ByteArray
theorem NB_get : ∀ (X : List Int) (i : Nat), (∀ b ∈ X, 0 ≤ b ∧ b < 256) → i < X.length → X.getD i 0 = NB X / 256 ^ i % 256
  | [], i, _, h => by simp at h
  | b :: X, 0, hb, h => by
    have := hb b (List.mem_cons_self ..)
    simp only [NB, List.getD_cons_zero, Int.pow_zero, Int.ediv_one]
    omega
  | b :: X, i + 1, hb, h => by
    have h0 := hb b (List.mem_cons_self ..)
    have ih := NB_get X i (fun c hc => hb c (List.mem_cons_of_mem _ hc)) (by simpa using h)
    rw [List.getD_cons_succ, ih, NB, Int.pow_succ, Int.mul_comm (256 ^ i), Int.ediv_mul_of_nonneg (by omega), show (b + 256 * NB X) / 256 = NB X from by omega]
theorem NB_nonneg : ∀ (X : List Int), (∀ b ∈ X, 0 ≤ b ∧ b < 256) → 0 ≤ NB X
  | [], _ => by simp [NB]
  | b :: X, hb => by
    have h0 := hb b (List.mem_cons_self ..)
    have := NB_nonneg X (fun c hc => hb c (List.mem_cons_of_mem _ hc))
    rw [NB]; omega
theorem str_size (X : List Int) : (strOfNums X).size = X.length := by simp [strOfNums, ByteArray.size]
theorem str_get (X : List Int) (i : Nat) (h : i < X.length) (hb : ∀ b ∈ X, 0 ≤ b ∧ b < 256) : bt (strOfNums X) (i : Int) = X.getD i 0 := by
  have h1 : (i : Int).toNat < (strOfNums X).size := by rw [str_size, Int.toNat_natCast]; exact h
  have h2 := hb _ (List.getElem_mem h)
  unfold bt
  rw [dif_pos h1]
  have e : ((strOfNums X)[(i : Int).toNat]'h1) = UInt8.ofNat (X[i]).toNat := by simp [strOfNums, ByteArray.getElem_eq_getElem_data]
  rw [e, List.getD_eq_getElem?_getD, List.getElem?_eq_getElem h, Option.getD_some, UInt8.toNat_ofNat']
  omega
/-- A writer's text reads as the number that it holds. -/
theorem text_reads (B : List Int) (last n : Int) (Z t : Nat) (h : Inv B last n (Z : Int) t) :
    t ≤ 8 * (strOfNums (if n = 0 then B else B ++ [last])).size ∧ 8 * (strOfNums (if n = 0 then B else B ++ [last])).size < t + 8 ∧ ∀ i, i < (strOfNums (if n = 0 then B else B ++ [last])).size → bt (strOfNums (if n = 0 then B else B ++ [last])) (i : Int) = ((Z / 256 ^ i % 256 : Nat) : Int) := by
  obtain ⟨h0, h1, h2, h3, h4, h5, h6⟩ := h
  have key : ∀ X : List Int, (∀ b ∈ X, 0 ≤ b ∧ b < 256) → NB X = (Z : Int) → ∀ i, i < (strOfNums X).size → bt (strOfNums X) (i : Int) = ((Z / 256 ^ i % 256 : Nat) : Int) := by
    intro X hX hN i hi
    rw [str_size] at hi
    rw [str_get X i hi hX, NB_get X i hX hi, hN]
    simp
  by_cases hn : n = 0
  · rw [if_pos hn, str_size]
    subst hn
    have hl : last = 0 := by
      have : last < 1 := by simpa using h3
      omega
    subst hl
    have hN : NB B = (Z : Int) := by rw [← h4]; simp
    exact ⟨by simp at h5; omega, by simp at h5; omega, fun i hi => key B h6 hN i (by rw [str_size]; exact hi)⟩
  · rw [if_neg hn, str_size, List.length_append, List.length_singleton]
    have hl : last < 256 := by
      have : (2 : Int) ^ n.toNat ≤ 2 ^ 7 := by
        have h7 : (2 : Nat) ^ n.toNat ≤ 2 ^ 7 := Nat.pow_le_pow_right (by omega) (by omega)
        have : ((2 ^ n.toNat : Nat) : Int) ≤ ((2 ^ 7 : Nat) : Int) := by omega
        simpa using this
      omega
    refine ⟨by omega, by omega, fun i hi => key (B ++ [last]) (fun b hb => ?_) (by rw [NB_snoc]; exact h4) i (by rw [str_size, List.length_append, List.length_singleton]; exact hi)⟩
    rcases List.mem_append.1 hb with h | h
    · exact h6 b h
    · simp at h; omega


end Go.Proofs.Ytiemjhoadobigaa.XPrefixReads
