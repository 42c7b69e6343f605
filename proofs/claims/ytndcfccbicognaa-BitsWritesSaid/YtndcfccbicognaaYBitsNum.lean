/- What the bits of a writer and a reader are, as numbers; the deeds. It has no conditions. -/
import Derived.Test.YtndcfccbicognaaYBitsAwake
import Derived.Laws.BitsAllLaws
import Derived.Test.YtndcfccbicognaaXOpens
namespace Go.Proofs.Ytndcfccbicognaa.XBitsReads
set_option linter.unusedVariables false
set_option linter.unusedSimpArgs false
open Go.RowKit Go.Proofs.YtndcfccbicognaaW.PrintWords Go.Proofs.YtndcfccbicognaaW.PrintLast Go.Proofs.YtndcfccbicognaaW.PrintMore

/-- The number that bytes are, the lowest first. -/
def NB : List Int → Int
  | [] => 0
  | b :: L => b + 256 * NB L
theorem NB_snoc (B : List Int) (t : Int) : NB (B ++ [t]) = NB B + t * 256 ^ B.length := by
  induction B with
  | nil => simp [NB]
  | cons b L ih =>
    simp only [List.cons_append, NB, ih, List.length_cons, Int.pow_succ]
    rw [Int.mul_add, Int.add_assoc]
    congr 2
    rw [Int.mul_left_comm, Int.mul_comm 256]
/-- A writer holds the number Z, of t bits. -/
def Inv (B : List Int) (last n Z : Int) (t : Nat) : Prop :=
  0 ≤ n ∧ n < 8 ∧ 0 ≤ last ∧ last < 2 ^ n.toNat ∧ NB B + last * 256 ^ B.length = Z ∧ 8 * B.length + n.toNat = t ∧ ∀ b ∈ B, 0 ≤ b ∧ b < 256

theorem fl_inv : ∀ (k : Nat) (B : List Int) (T : Int) (m : Nat), 0 ≤ T → T < 2 ^ m → m < 8 * (k + 1) → (∀ b ∈ B, 0 ≤ b ∧ b < 256) →
    Inv (fl k B T (m : Int)).1 (fl k B T (m : Int)).2.1 (fl k B T (m : Int)).2.2 (NB B + T * 256 ^ B.length) (8 * B.length + m)
  | 0, B, T, m, h0, h1, h2, hb => by
    rw [fl]
    exact ⟨by show (0 : Int) ≤ (m : Int); omega, by show (m : Int) < 8; omega, h0, by show T < 2 ^ (m : Int).toNat; rw [Int.toNat_natCast]; exact h1, rfl, by show _ + (m : Int).toNat = _; rw [Int.toNat_natCast], hb⟩
  | k + 1, B, T, m, h0, h1, h2, hb => by
    rw [fl]
    by_cases h8 : 8 ≤ (m : Int)
    · rw [if_pos h8]
      obtain ⟨q, rfl⟩ : ∃ q, m = q + 8 := ⟨m - 8, by omega⟩
      have hp : (2 : Int) ^ (q + 8) = 256 * 2 ^ q := by rw [Int.pow_add, Int.mul_comm]; rfl
      rw [hp] at h1
      have ih := fl_inv k (B ++ [T % 256]) (T / 256) q (by omega) (by omega) (by omega) (fun b hb2 => by
        rcases List.mem_append.1 hb2 with h | h
        · exact hb b h
        · simp at h; omega)
      have e1 : ((q + 8 : Nat) : Int) - 8 = (q : Int) := by omega
      rw [e1]
      have e2 : NB (B ++ [T % 256]) + T / 256 * 256 ^ (B ++ [T % 256]).length = NB B + T * 256 ^ B.length := by
        rw [NB_snoc, List.length_append, List.length_singleton, Int.pow_succ, Int.add_assoc]
        congr 1
        rw [Int.mul_comm (256 ^ B.length) 256, ← Int.mul_assoc, ← Int.add_mul]
        congr 1
        omega
      have e3 : 8 * (B ++ [T % 256]).length + q = 8 * B.length + (q + 8) := by simp; omega
      rw [e2, e3] at ih
      exact ih
    · rw [if_neg h8]
      exact ⟨by show (0 : Int) ≤ (m : Int); omega, by show (m : Int) < 8; omega, h0, by show T < 2 ^ (m : Int).toNat; rw [Int.toNat_natCast]; exact h1, rfl, by show _ + (m : Int).toNat = _; rw [Int.toNat_natCast], hb⟩

theorem or_add (a c n : Nat) (ha : a < 2 ^ n) : a ||| (c * 2 ^ n) = a + c * 2 ^ n := by
  rw [Nat.or_comm, Nat.mul_comm, ← Nat.two_pow_add_eq_or_of_lt ha, Nat.add_comm]
theorem wrap64u (x : Nat) (h : x < 18446744073709551616) : IntKind.u64.wrap (x : Int) = x := by rw [IntKind.wrap_u64]; omega
theorem putT (last x n M : Nat) (hl : last < 2 ^ n) (hx : x < 4294967296) (hn : n < 8) (hM : M ≤ 32) :
    bits BinOp.or IntKind.u64 (last : Int) (IntKind.u64.wrap (bits BinOp.and IntKind.u64 (x : Int) (IntKind.u64.wrap (IntKind.u64.wrap (2 ^ M) - 1)) * 2 ^ n)) = ((last + (x % 2 ^ M) * 2 ^ n : Nat) : Int) := by
  have hM2 : 2 ^ M ≤ 2 ^ 32 := Nat.pow_le_pow_right (by omega) hM
  have hM3 : 0 < 2 ^ M := Nat.two_pow_pos M
  have hn2 : 2 ^ n ≤ 2 ^ 7 := Nat.pow_le_pow_right (by omega) (by omega)
  have e1 : (2 : Int) ^ M = ((2 ^ M : Nat) : Int) := by simp
  have e2 : (2 : Int) ^ n = ((2 ^ n : Nat) : Int) := by simp
  rw [e1, e2, wrap64u _ (by omega), show ((2 ^ M : Nat) : Int) - 1 = ((2 ^ M - 1 : Nat) : Int) from by omega, wrap64u _ (by omega), u64_and_nat _ _ (by omega) (by omega), Nat.and_two_pow_sub_one_eq_mod]
  have hm : x % 2 ^ M < 2 ^ 32 := Nat.lt_of_lt_of_le (Nat.mod_lt _ hM3) hM2
  have hml : (x % 2 ^ M) * 2 ^ n < 2 ^ 39 := by
    calc (x % 2 ^ M) * 2 ^ n ≤ (2 ^ 32 - 1) * 2 ^ 7 := Nat.mul_le_mul (by omega) hn2
      _ < 2 ^ 39 := by decide
  rw [show ((x % 2 ^ M : Nat) : Int) * ((2 ^ n : Nat) : Int) = (((x % 2 ^ M) * 2 ^ n : Nat) : Int) from by rw [Int.natCast_mul], wrap64u _ (by omega), u64_or_nat _ _ (by omega) (by omega), or_add _ _ _ hl]
/-- What a Put leaves holds the number with the new bits above. -/
theorem put_inv (B : List Int) (last n Z : Int) (t : Nat) (x : Int) (M : Nat) (h : Inv B last n Z t) (hx0 : 0 ≤ x) (hx1 : x < 4294967296) (hM : M ≤ 32) :
    bits BinOp.or IntKind.u64 last (IntKind.u64.wrap (bits BinOp.and IntKind.u64 x (IntKind.u64.wrap (IntKind.u64.wrap (2 ^ M) - 1)) * 2 ^ n.toNat)) = last + (x % 2 ^ M) * 2 ^ n.toNat ∧
    0 ≤ last + (x % 2 ^ M) * 2 ^ n.toNat ∧ last + (x % 2 ^ M) * 2 ^ n.toNat < 18446744073709551616 ∧
    Inv (fl 5 B (last + (x % 2 ^ M) * 2 ^ n.toNat) (n + M)).1 (fl 5 B (last + (x % 2 ^ M) * 2 ^ n.toNat) (n + M)).2.1 (fl 5 B (last + (x % 2 ^ M) * 2 ^ n.toNat) (n + M)).2.2 (Z + (x % 2 ^ M) * 2 ^ t) (t + M) := by
  obtain ⟨h0, h1, h2, h3, h4, h5, h6⟩ := h
  obtain ⟨k, rfl⟩ : ∃ k : Nat, n = k := ⟨n.toNat, by omega⟩
  obtain ⟨L, rfl⟩ : ∃ k : Nat, last = k := ⟨last.toNat, by omega⟩
  obtain ⟨X, rfl⟩ : ∃ k : Nat, x = k := ⟨x.toNat, by omega⟩
  rw [Int.toNat_natCast] at h3 h5 ⊢
  have hL : L < 2 ^ k := by
    have : ((L : Nat) : Int) < ((2 ^ k : Nat) : Int) := by simpa using h3
    omega
  have hp := putT L X k M hL (by omega) (by omega) hM
  have e1 : ((L + (X % 2 ^ M) * 2 ^ k : Nat) : Int) = (L : Int) + (X : Int) % 2 ^ M * 2 ^ k := by simp
  have hb : L + (X % 2 ^ M) * 2 ^ k < 2 ^ (k + M) := by
    have hm : X % 2 ^ M < 2 ^ M := Nat.mod_lt _ (Nat.two_pow_pos M)
    calc L + (X % 2 ^ M) * 2 ^ k < 2 ^ k + (X % 2 ^ M) * 2 ^ k := by omega
      _ = (X % 2 ^ M + 1) * 2 ^ k := by rw [Nat.add_mul, Nat.one_mul, Nat.add_comm]
      _ ≤ 2 ^ M * 2 ^ k := Nat.mul_le_mul_right _ hm
      _ = 2 ^ (k + M) := by rw [Nat.add_comm, Nat.pow_add]
  have hb2 : 2 ^ (k + M) ≤ 2 ^ 40 := Nat.pow_le_pow_right (by omega) (by omega)
  have hi := fl_inv 5 B ((L + (X % 2 ^ M) * 2 ^ k : Nat) : Int) (k + M) (by omega) (by have : ((L + (X % 2 ^ M) * 2 ^ k : Nat) : Int) < ((2 ^ (k + M) : Nat) : Int) := by omega
                                                                                       simpa using this) (by omega) h6
  rw [← e1]
  refine ⟨hp, by omega, by omega, ?_⟩
  have e2 : NB B + ((L + (X % 2 ^ M) * 2 ^ k : Nat) : Int) * 256 ^ B.length = Z + (X : Int) % 2 ^ M * 2 ^ t := by
    rw [e1, Int.add_mul, ← Int.add_assoc, h4, Int.mul_assoc, ← h5]
    congr 2
    rw [Nat.add_comm (8 * B.length) k, Int.pow_add, Int.pow_mul]
    rfl
  have e3 : 8 * B.length + (k + M) = t + M := by omega
  rw [e2, e3] at hi
  rw [show ((k : Nat) : Int) + ((M : Nat) : Int) = ((k + M : Nat) : Int) from by omega]
  exact hi

theorem w64 {x : Int} (h0 : -9223372036854775808 ≤ x) (h1 : x < 9223372036854775808) : wrap64 x = x := by unfold wrap64; omega
/-- One round of the reader's loop. -/
theorem read_step (Z : Nat) (j : Nat) (hj : j < 7) : (Go.bits .or .u64 ((Z % 256 ^ j : Nat) : Int) (shl .u64 (IntKind.u64.wrap ((Z / 256 ^ j % 256 : Nat) : Int)) ((8 * j : Nat) : Int))) = ((Z % 256 ^ (j + 1) : Nat) : Int) := by
  have h1 : Z / 256 ^ j % 256 < 256 := Nat.mod_lt _ (by decide)
  have e0 : (256 : Nat) ^ j = 2 ^ (8 * j) := by rw [Nat.pow_mul]
  have h2 : Z % 256 ^ j < 256 ^ j := Nat.mod_lt _ (Nat.pow_pos (by decide))
  have h3 : (2 : Nat) ^ (8 * j) ≤ 2 ^ 48 := Nat.pow_le_pow_right (by omega) (by omega)
  have h4 : (Z / 256 ^ j % 256) * 2 ^ (8 * j) < 2 ^ 56 := by
    calc (Z / 256 ^ j % 256) * 2 ^ (8 * j) ≤ 255 * 2 ^ 48 := Nat.mul_le_mul (by omega) h3
      _ < 2 ^ 56 := by decide
  have e1 : min ((8 * j : Nat) : Int).toNat IntKind.u64.bits = 8 * j := by
    have : IntKind.u64.bits = 64 := rfl
    rw [this, Int.toNat_natCast]; omega
  unfold shl
  rw [e1, wrap64u _ (by omega), show ((Z / 256 ^ j % 256 : Nat) : Int) * 2 ^ (8 * j) = (((Z / 256 ^ j % 256) * 2 ^ (8 * j) : Nat) : Int) from by simp, wrap64u _ (by omega), u64_or_nat _ _ (by omega) (by omega), or_add _ _ _ (by omega)]
  rw [Nat.pow_succ, Nat.mod_mul, ← e0, Nat.mul_comm (256 ^ j)]

theorem read_end (Z p n j : Nat) (hn : n ≤ 32) (hj : j ≤ 5) (hq : n + p % 8 ≤ 8 * j) : (Go.bits .and .u64 (shr .u64 ((Z / 256 ^ (p / 8) % 256 ^ j : Nat) : Int) ((p % 8 : Nat) : Int)) (IntKind.u64.wrap ((shl .u64 1 (n : Int)) - 1))) % 4294967296 = ((Z / 2 ^ p % 2 ^ n : Nat) : Int) := by
  have hb : IntKind.u64.bits = 64 := rfl
  have e1 : min ((n : Nat) : Int).toNat IntKind.u64.bits = n := by rw [hb, Int.toNat_natCast]; omega
  have e2 : min ((p % 8 : Nat) : Int).toNat IntKind.u64.bits = p % 8 := by rw [hb, Int.toNat_natCast]; omega
  have hn2 : 2 ^ n ≤ 2 ^ 32 := Nat.pow_le_pow_right (by omega) hn
  have hn3 : 0 < 2 ^ n := Nat.two_pow_pos n
  have e3 : shl .u64 1 (n : Int) = ((2 ^ n : Nat) : Int) := by
    unfold shl
    rw [e1, Int.one_mul, show (2 : Int) ^ n = ((2 ^ n : Nat) : Int) from by simp, wrap64u _ (by omega)]
  have e4 : shr .u64 ((Z / 256 ^ (p / 8) % 256 ^ j : Nat) : Int) ((p % 8 : Nat) : Int) = ((Z / 256 ^ (p / 8) % 256 ^ j / 2 ^ (p % 8) : Nat) : Int) := by
    unfold shr
    rw [e2]
    simp
  have h5 : Z / 256 ^ (p / 8) % 256 ^ j < 256 ^ j := Nat.mod_lt _ (Nat.pow_pos (by decide))
  have h6 : (256 : Nat) ^ j ≤ 256 ^ 5 := Nat.pow_le_pow_right (by omega) hj
  have h7 : Z / 256 ^ (p / 8) % 256 ^ j / 2 ^ (p % 8) ≤ Z / 256 ^ (p / 8) % 256 ^ j := Nat.div_le_self _ _
  have e5 : (256 : Nat) ^ j = 2 ^ (p % 8) * 2 ^ (8 * j - p % 8) := by rw [← Nat.pow_add, show p % 8 + (8 * j - p % 8) = 8 * j from by omega, Nat.pow_mul]
  have e6 : Z / 256 ^ (p / 8) / 2 ^ (p % 8) = Z / 2 ^ p := by
    rw [Nat.div_div_eq_div_mul, show (256 : Nat) ^ (p / 8) = 2 ^ (8 * (p / 8)) from by rw [Nat.pow_mul], ← Nat.pow_add, show 8 * (p / 8) + p % 8 = p from by omega]
  have e7 : Z / 256 ^ (p / 8) % 256 ^ j / 2 ^ (p % 8) % 2 ^ n = Z / 2 ^ p % 2 ^ n := by
    rw [e5, Nat.mod_mul_right_div_self, Nat.mod_mod_of_dvd _ (Nat.pow_dvd_pow 2 (by omega)), e6]
  rw [e3, e4, show ((2 ^ n : Nat) : Int) - 1 = ((2 ^ n - 1 : Nat) : Int) from by omega, wrap64u _ (by omega), u64_and_nat _ _ (by omega) (by omega), Nat.and_two_pow_sub_one_eq_mod, e7]
  have h8 : Z / 2 ^ p % 2 ^ n < 2 ^ n := Nat.mod_lt _ hn3
  omega
theorem read_l0 (S : ByteArray) (Z p n : Nat) (hn : n ≤ 32) (hp : p + n ≤ 8 * S.size) (hS : S.size ≤ 1000000) (hZ : ∀ i, i < S.size → bt S (i : Int) = ((Z / 256 ^ i % 256 : Nat) : Int)) :
    ∀ (d j : Nat), 6 - j = d → j ≤ 5 → (1 ≤ j → 8 * (j - 1) < n + p % 8) → Ev (fun k => bits_Reader_Bits.l0 k (n : Int) ((Z / 256 ^ (p / 8) % 256 ^ j : Nat) : Int) ((8 * j : Nat) : Int) ((p / 8 + j : Nat) : Int) S (p : Int) false) (((Z / 2 ^ p % 2 ^ n : Nat) : Int), S, ((p + n : Nat) : Int), false) := by
  intro d
  induction d with
  | zero => intro j hd hj; omega
  | succ d ih =>
    intro j hd hj hq
    have et : Int.tmod (p : Int) 8 = ((p % 8 : Nat) : Int) := by rw [Int.tmod_eq_emod_of_nonneg (by omega)]; omega
    by_cases hlt : 8 * j < n + p % 8
    · have hi : p / 8 + j < S.size := by omega
      have hz := hZ _ hi
      have e1 : Z / 256 ^ (p / 8 + j) % 256 = (Z / 256 ^ (p / 8)) / 256 ^ j % 256 := by rw [Nat.div_div_eq_div_mul, ← Nat.pow_add]
      refine Ev.step (fun k => ?_) (ih (j + 1) (by omega) (by omega) (fun _ => by simpa using hlt))
      simp only [bits_Reader_Bits.l0]
      rw [et, w64 (by omega) (by omega), if_pos (by omega), if_pos (by omega), if_pos (by omega), if_pos (by omega), hz, e1, read_step _ _ (by omega), w64 (by omega) (by omega), w64 (by omega) (by omega), show ((8 * j : Nat) : Int) + 8 = ((8 * (j + 1) : Nat) : Int) from by omega, show ((p / 8 + j : Nat) : Int) + 1 = ((p / 8 + (j + 1) : Nat) : Int) from by omega]
    · refine Ev.step (f := fun _ => some (((Z / 2 ^ p % 2 ^ n : Nat) : Int), S, ((p + n : Nat) : Int), false)) (fun k => ?_) (Ev.now _)
      simp only [bits_Reader_Bits.l0]
      rw [et, w64 (by omega) (by omega), if_neg (by omega), if_pos (by omega), if_pos (by omega), w64 (by omega) (by omega)]
      rw [read_end Z p n j hn hj (by omega), show (p : Int) + n = ((p + n : Nat) : Int) from by omega]
/-- What the reader answers. -/
theorem reads (S : ByteArray) (Z p n : Nat) (hn : n ≤ 32) (hp : p + n ≤ 8 * S.size) (hS : S.size ≤ 1000000) (hZ : ∀ i, i < S.size → bt S (i : Int) = ((Z / 256 ^ i % 256 : Nat) : Int)) :
    Ev (fun k => bits_Reader_Bits.f k S (p : Int) false (n : Int)) (((Z / 2 ^ p % 2 ^ n : Nat) : Int), S, ((p + n : Nat) : Int), false) := by
  have h := read_l0 S Z p n hn hp hS hZ 6 0 rfl (by omega) (fun h => by omega)
  have h0 : ((Z / 256 ^ (p / 8) % 256 ^ 0 : Nat) : Int) = 0 := by rw [Nat.pow_zero, Nat.mod_one]; rfl
  have e8 : wrap64 (Int.tdiv (p : Int) 8) = ((p / 8 + 0 : Nat) : Int) := by
    rw [Int.tdiv_eq_ediv_of_nonneg (by omega), w64 (by omega) (by omega)]; omega
  have hj : Ev (fun k => bits_Reader_Bits.j0 k (n : Int) false S (p : Int) false) (((Z / 2 ^ p % 2 ^ n : Nat) : Int), S, ((p + n : Nat) : Int), false) := by
    refine Ev.step (fun k => ?_) h
    simp only [bits_Reader_Bits.j0]
    rw [if_neg (by decide), e8, h0]
    rfl
  refine Ev.congr (fun k => ?_) hj
  unfold bits_Reader_Bits.f bits_Reader_live.f bits_Reader_Left.f
  have hd : decide ((n : Int) > wrap64 (wrap64 (8 * (S.size : Int)) - (p : Int))) = false := by
    rw [w64 (x := 8 * (S.size : Int)) (by omega) (by omega), w64 (by omega) (by omega)]
    exact decide_eq_false (by omega)
  simp only [Option.bind_some]
  rw [if_pos (by decide), if_neg (by omega), if_neg (by omega), hd]
/-! #### struct type 28: a deed -/
structure S28 where
  f0 : Int
  f1 : Int
  f2 : Int
  f3 : ByteArray
def z28 : S28 := ⟨(0 : Int), (0 : Int), (0 : Int), ByteArray.empty⟩
def k28 : Kd S28 := Kd.iso (Kd.pair (Kd.int .u8) (Kd.pair (Kd.int .u32) (Kd.pair (Kd.int .i64) Kd.string))) (fun x : S28 => (x.f0, x.f1, x.f2, x.f3))
theorem k28_open {w : World} {x : S28} {cs : List Value} (h : k28.K w x cs) : cs = [.int .u8 x.f0, .int .u32 x.f1, .int .i64 x.f2, .string x.f3] := by
  obtain ⟨_, _, rfl, rfl, ⟨_, _, rfl, rfl, ⟨_, _, rfl, rfl, rfl⟩⟩⟩ := h
  exact rfl
def rd_T28 (xs : List S28) (i : Int) : S28 := xs.getD i.toNat z28
theorem at_T28 {w : World} {A : Option Addr} {n : Nat} {xs : List S28} (h : Kd.C k28 w A n xs) (i : Int) (h0 : 0 ≤ i) (h1 : i < n) : ∃ ad , A = some ad ∧ w.cell? (ad.add (i.toNat * 4)) = some (.int .u8 (rd_T28 xs i).f0) ∧ w.cell? ⟨(ad.add (i.toNat * 4)).block, (ad.add (i.toNat * 4)).off + 1, none⟩ = some (.int .u32 (rd_T28 xs i).f1) ∧ w.cell? ⟨(ad.add (i.toNat * 4)).block, (ad.add (i.toNat * 4)).off + 2, none⟩ = some (.int .i64 (rd_T28 xs i).f2) ∧ w.cell? ⟨(ad.add (i.toNat * 4)).block, (ad.add (i.toNat * 4)).off + 3, none⟩ = some (.string (rd_T28 xs i).f3) := by
  obtain ⟨ad, c, e, _, hK, hc0⟩ := Kd.C_get h z28 i h0 h1
  have hc : ∀ j u, c[j]? = some u → w.cell? (ad.add (i.toNat * 4 + j)) = some u := hc0
  obtain rfl := k28_open hK
  exact ⟨ad, e, hc 0 _ rfl, by rw [← add_field _ _ 1 (by omega)]; exact hc 1 _ rfl, by rw [← add_field _ _ 2 (by omega)]; exact hc 2 _ rfl, by rw [← add_field _ _ 3 (by omega)]; exact hc 3 _ rfl⟩

def G28 (x : S28) : Prop := (Lit.int .u8 x.f0).wf = true ∧ (Lit.int .u32 x.f1).wf = true ∧ (Lit.int .i64 x.f2).wf = true ∧ x.f3.size ≤ maxLen
theorem opens28 : Opens.Opens Try.prog 28 k28 G28 := by
  intro H enc W fuel cs x h
  obtain ⟨xs, n, _, _, hl, hlen, hf⟩ := DataW.trod_struct Try.underlying28 h
  have l0_ : cs.length = 4 := hl.trans (by kernel_rfl)
  clear hl
  obtain ⟨v0, r0, e0_, l1_⟩ := Opens.cons_of (n := 3) l0_
  subst e0_
  obtain ⟨v1, r1, rfl, l2_⟩ := Opens.cons_of (n := 2) l1_
  obtain ⟨v2, r2, rfl, l3_⟩ := Opens.cons_of (n := 1) l2_
  obtain ⟨v3, r3, rfl, l4_⟩ := Opens.cons_of (n := 0) l3_
  obtain rfl := Opens.nil_of l4_
  have h0 : DataW.trod enc Try.prog W 0 (fun _ => true) true n 5 (List.take (Try.prog.cellsOf 5) (List.drop 0 [v0, v1, v2, v3])) = xs[0]? := hf 0 _ rfl
  obtain ⟨y0, hy0⟩ : ∃ y, xs[0]? = some y := ⟨_, List.getElem?_eq_getElem (by rw [hlen]; decide)⟩
  rw [hy0, show Try.prog.cellsOf 5 = 1 from by kernel_rfl] at h0
  obtain ⟨a0, k0_, g0⟩ := (Opens.opens_int (k := .u8) Try.underlying5) _ _ _ _ _ _ h0
  have h1 : DataW.trod enc Try.prog W 0 (fun _ => true) true n 26 (List.take (Try.prog.cellsOf 26) (List.drop 1 [v0, v1, v2, v3])) = xs[1]? := hf 1 _ rfl
  obtain ⟨y1, hy1⟩ : ∃ y, xs[1]? = some y := ⟨_, List.getElem?_eq_getElem (by rw [hlen]; decide)⟩
  rw [hy1, show Try.prog.cellsOf 26 = 1 from by kernel_rfl] at h1
  obtain ⟨a1, k1_, g1⟩ := (Opens.opens_int (k := .u32) Try.underlying26) _ _ _ _ _ _ h1
  have h2 : DataW.trod enc Try.prog W 0 (fun _ => true) true n 3 (List.take (Try.prog.cellsOf 3) (List.drop 2 [v0, v1, v2, v3])) = xs[2]? := hf 2 _ rfl
  obtain ⟨y2, hy2⟩ : ∃ y, xs[2]? = some y := ⟨_, List.getElem?_eq_getElem (by rw [hlen]; decide)⟩
  rw [hy2, show Try.prog.cellsOf 3 = 1 from by kernel_rfl] at h2
  obtain ⟨a2, k2_, g2⟩ := (Opens.opens_int (k := .i64) Try.underlying3) _ _ _ _ _ _ h2
  have h3 : DataW.trod enc Try.prog W 0 (fun _ => true) true n 9 (List.take (Try.prog.cellsOf 9) (List.drop 3 [v0, v1, v2, v3])) = xs[3]? := hf 3 _ rfl
  obtain ⟨y3, hy3⟩ : ∃ y, xs[3]? = some y := ⟨_, List.getElem?_eq_getElem (by rw [hlen]; decide)⟩
  rw [hy3, show Try.prog.cellsOf 9 = 1 from by kernel_rfl] at h3
  obtain ⟨a3, k3_, g3⟩ := (Opens.opens_string Try.underlying9) _ _ _ _ _ _ h3
  exact ⟨⟨a0, a1, a2, a3⟩, ⟨[v0], [v1, v2, v3], rfl, k0_, ⟨[v1], [v2, v3], rfl, k1_, ⟨[v2], [v3], rfl, k2_, k3_⟩⟩⟩, g0, g1, g2, g3⟩

theorem NB_get : ∀ (X : List Int) (i : Nat), (∀ b ∈ X, 0 ≤ b ∧ b < 256) → i < X.length → X.getD i 0 = NB X / 256 ^ i % 256
  | [], i, _, h => by simp at h
  | b :: X, 0, hb, h => by
    have := hb b (List.mem_cons_self ..)
    simp only [NB, List.getD_cons_zero, Int.pow_zero, Int.ediv_one]
    omega
  | b :: X, i + 1, hb, h => by
    have h0 := hb b (List.mem_cons_self ..)
    have ih := NB_get X i (fun c hc => hb c (List.mem_cons_of_mem _ hc)) (by simpa using h)
    rw [List.getD_cons_succ, ih, NB, Int.pow_succ, Int.mul_comm (256 ^ i), Int.ediv_mul_of_nonneg (by omega), show (b + 256 * NB X) / 256 = NB X from by omega]
theorem NB_nonneg : ∀ (X : List Int), (∀ b ∈ X, 0 ≤ b ∧ b < 256) → 0 ≤ NB X
  | [], _ => by simp [NB]
  | b :: X, hb => by
    have h0 := hb b (List.mem_cons_self ..)
    have := NB_nonneg X (fun c hc => hb c (List.mem_cons_of_mem _ hc))
    rw [NB]; omega
theorem str_size (X : List Int) : (strOfNums X).size = X.length := by simp [strOfNums, ByteArray.size]
theorem str_get (X : List Int) (i : Nat) (h : i < X.length) (hb : ∀ b ∈ X, 0 ≤ b ∧ b < 256) : bt (strOfNums X) (i : Int) = X.getD i 0 := by
  have h1 : (i : Int).toNat < (strOfNums X).size := by rw [str_size, Int.toNat_natCast]; exact h
  have h2 := hb _ (List.getElem_mem h)
  unfold bt
  rw [dif_pos h1]
  have e : ((strOfNums X)[(i : Int).toNat]'h1) = UInt8.ofNat (X[i]).toNat := by simp [strOfNums, ByteArray.getElem_eq_getElem_data]
  rw [e, List.getD_eq_getElem?_getD, List.getElem?_eq_getElem h, Option.getD_some, UInt8.toNat_ofNat']
  omega
/-- A writer's text reads as the number that it holds. -/
theorem text_reads (B : List Int) (last n : Int) (Z t : Nat) (h : Inv B last n (Z : Int) t) :
    t ≤ 8 * (strOfNums (if n = 0 then B else B ++ [last])).size ∧ 8 * (strOfNums (if n = 0 then B else B ++ [last])).size < t + 8 ∧ ∀ i, i < (strOfNums (if n = 0 then B else B ++ [last])).size → bt (strOfNums (if n = 0 then B else B ++ [last])) (i : Int) = ((Z / 256 ^ i % 256 : Nat) : Int) := by
  obtain ⟨h0, h1, h2, h3, h4, h5, h6⟩ := h
  have key : ∀ X : List Int, (∀ b ∈ X, 0 ≤ b ∧ b < 256) → NB X = (Z : Int) → ∀ i, i < (strOfNums X).size → bt (strOfNums X) (i : Int) = ((Z / 256 ^ i % 256 : Nat) : Int) := by
    intro X hX hN i hi
    rw [str_size] at hi
    rw [str_get X i hi hX, NB_get X i hX hi, hN]
    simp
  by_cases hn : n = 0
  · rw [if_pos hn, str_size]
    subst hn
    have hl : last = 0 := by
      have : last < 1 := by simpa using h3
      omega
    subst hl
    have hN : NB B = (Z : Int) := by rw [← h4]; simp
    exact ⟨by simp at h5; omega, by simp at h5; omega, fun i hi => key B h6 hN i (by rw [str_size]; exact hi)⟩
  · rw [if_neg hn, str_size, List.length_append, List.length_singleton]
    have hl : last < 256 := by
      have : (2 : Int) ^ n.toNat ≤ 2 ^ 7 := by
        have h7 : (2 : Nat) ^ n.toNat ≤ 2 ^ 7 := Nat.pow_le_pow_right (by omega) (by omega)
        have : ((2 ^ n.toNat : Nat) : Int) ≤ ((2 ^ 7 : Nat) : Int) := by omega
        simpa using this
      omega
    refine ⟨by omega, by omega, fun i hi => key (B ++ [last]) (fun b hb => ?_) (by rw [NB_snoc]; exact h4) i (by rw [str_size, List.length_append, List.length_singleton]; exact hi)⟩
    rcases List.mem_append.1 hb with h | h
    · exact h6 b h
    · simp at h; omega

/-- How many bits a deed puts. -/
def cl (N : Int) : Nat := (if 32 < (if N < 0 then 0 else N) then 32 else (if N < 0 then 0 else N) : Int).toNat
def ts (l : List S28) : Nat → Nat
  | 0 => 0
  | k + 1 => ts l k + cl (rd_T28 l (k : Int)).f2
def vs (l : List S28) (k : Nat) : Nat := (rd_T28 l (k : Int)).f1.toNat % 2 ^ cl (rd_T28 l (k : Int)).f2
def zs (l : List S28) : Nat → Nat
  | 0 => 0
  | k + 1 => zs l k + vs l k * 2 ^ ts l k
theorem cl_le (N : Int) : cl N ≤ 32 := by unfold cl; split <;> split <;> omega
theorem ts_le (l : List S28) : ∀ k, ts l k ≤ 32 * k
  | 0 => Nat.le_refl _
  | k + 1 => by have := ts_le l k; have := cl_le (rd_T28 l (k : Int)).f2; rw [ts]; omega
theorem ts_mono (l : List S28) (k : Nat) : ∀ d, ts l k ≤ ts l (k + d)
  | 0 => Nat.le_refl _
  | d + 1 => by have := ts_mono l k d; rw [← Nat.add_assoc, ts]; omega
theorem zs_lt (l : List S28) : ∀ k, zs l k < 2 ^ ts l k
  | 0 => by simp [zs, ts]
  | k + 1 => by
    have ih := zs_lt l k
    have hv : vs l k < 2 ^ cl (rd_T28 l (k : Int)).f2 := Nat.mod_lt _ (Nat.two_pow_pos _)
    rw [zs, ts, Nat.pow_add, Nat.mul_comm (2 ^ ts l k)]
    calc zs l k + vs l k * 2 ^ ts l k < 2 ^ ts l k + vs l k * 2 ^ ts l k := by omega
      _ = (vs l k + 1) * 2 ^ ts l k := by rw [Nat.add_mul, Nat.one_mul, Nat.add_comm]
      _ ≤ 2 ^ cl (rd_T28 l (k : Int)).f2 * 2 ^ ts l k := Nat.mul_le_mul_right _ hv
theorem zs_later (l : List S28) (k : Nat) : ∀ d, ∃ R, zs l (k + d) = zs l k + R * 2 ^ ts l k
  | 0 => ⟨0, by simp⟩
  | d + 1 => by
    obtain ⟨R, hR⟩ := zs_later l k d
    obtain ⟨e, he⟩ : ∃ e, ts l (k + d) = e + ts l k := ⟨ts l (k + d) - ts l k, by have := ts_mono l k d; omega⟩
    refine ⟨R + vs l (k + d) * 2 ^ e, ?_⟩
    rw [← Nat.add_assoc, zs, hR, he, Nat.pow_add, Nat.add_mul, Nat.mul_assoc, Nat.add_assoc]
/-- What is read at a deed's place is what was put. -/
theorem zs_read (l : List S28) (k d : Nat) : zs l (k + 1 + d) / 2 ^ ts l k % 2 ^ cl (rd_T28 l (k : Int)).f2 = vs l k := by
  obtain ⟨R, hR⟩ := zs_later l (k + 1) d
  have hlt := zs_lt l k
  have hv : vs l k < 2 ^ cl (rd_T28 l (k : Int)).f2 := Nat.mod_lt _ (Nat.two_pow_pos _)
  rw [hR, zs, ts, Nat.pow_add, show zs l k + vs l k * 2 ^ ts l k + R * (2 ^ ts l k * 2 ^ cl (rd_T28 l (k : Int)).f2) = zs l k + (vs l k + R * 2 ^ cl (rd_T28 l (k : Int)).f2) * 2 ^ ts l k from by rw [Nat.add_mul, ← Nat.add_assoc, Nat.mul_assoc, Nat.mul_comm (2 ^ ts l k)], Nat.add_mul_div_right _ _ (Nat.two_pow_pos _), Nat.div_eq_of_lt hlt, Nat.zero_add, Nat.add_mul_mod_self_right, Nat.mod_eq_of_lt hv]
end Go.Proofs.Ytndcfccbicognaa.XBitsReads
