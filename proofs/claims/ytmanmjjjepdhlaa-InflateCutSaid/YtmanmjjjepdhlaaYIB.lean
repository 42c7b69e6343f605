/- Several texts of this seat's proofs, joined: YInf6, YInf7, YInf8, YInf9, YInf10. It has no conditions. -/
import Derived.Test.YtmanmjjjepdhlaaYIA
import Derived.BigRegion
import Derived.RegionTactic
import Derived.ChangeAlike
import Derived.Deep.RegionWith
import Derived.Deep.RegionLaw
import Derived.Laws.Tables
import Derived.Deep.QuietTactic
import Derived.BigQuiet
import Derived.Deep.RegionHeld3
import Derived.Deep.AppendLies
import Derived.Deep.DrawnRows
import Derived.Laws.CopyOwn
import Derived.Deep.MidRow
import Derived.Laws.ResultCell
import Derived.ChangeKeysEq
import Derived.Laws.BitsAllLaws
namespace Go.Proofs.Ytmanmjjjepdhlaa.XPrefix
set_option linter.unusedVariables false
set_option linter.unusedSimpArgs false
open Go.RowKit Go.Proofs.YtmanmjjjepdhlaaW.PrintWords Go.Proofs.YtmanmjjjepdhlaaW.PrintLast Go.Proofs.YtmanmjjjepdhlaaW.PrintMore
attribute [local go_sem] max2_int min2_int max_two min_two max_three min_three max_four min_four


open XInflateAny XTok
theorem and_mask (x : Nat) (h : x < 2 ^ 64) : x &&& (2 ^ 64 - 8) = x / 8 * 8 := by
  apply Nat.eq_of_testBit_eq
  intro i
  rw [Nat.testBit_and, show 2 ^ 64 - 8 = (2 ^ 61 - 1) * 2 ^ 3 from by decide, show x / 8 * 8 = (x / 2 ^ 3) * 2 ^ 3 from rfl, Nat.testBit_mul_two_pow, Nat.testBit_mul_two_pow, Nat.testBit_two_pow_sub_one, Nat.testBit_div_two_pow]
  by_cases h3 : 3 ≤ i
  · rw [show i - 3 + 3 = i from by omega]
    by_cases h4 : i < 64
    · simp [h3, show i - 3 < 61 from by omega]
    · have : x.testBit i = false := Nat.testBit_lt_two_pow (Nat.lt_of_lt_of_le h (Nat.pow_le_pow_right (by decide) (by omega)))
      simp [this]
  · simp [h3]
theorem andNot7 (x : Nat) (h : x < 9223372036854775808) : Go.bits .andNot .i64 ((x : Nat) : Int) 7 = ((x / 8 * 8 : Nat) : Int) := by
  show IntKind.i64.wrap ((BitVec.ofInt 64 (x : Int) &&& ~~~ BitVec.ofInt 64 7).toNat : Int) = _
  have e : (~~~ BitVec.ofInt 64 7).toNat = 2 ^ 64 - 8 := by decide
  rw [BitVec.toNat_and, e, BitVec.ofInt_natCast, BitVec.toNat_ofNat, Nat.mod_eq_of_lt (by omega), and_mask x (by omega), i64_w]
  unfold wrap64
  omega
/-- Both readers go on to the next byte alike. -/
theorem align_ok (S : ByteArray) (p : Nat) (bad : Bool) (hp : p ≤ 800000) : bits_Reader_Align.f S (p : Int) bad = some (S, (if bad = true then (p : Int) else (((p + 7) / 8 * 8 : Nat) : Int)), bad) := by
  unfold bits_Reader_Align.f bits_Reader_live.f bits_Reader_aligned.f
  simp only [Option.bind_some]
  cases bad
  · rw [if_pos (by decide), if_neg (by decide), w64 (x := (p : Int) + 8) (by omega) (by omega), w64 (by omega) (by omega), show (p : Int) + 8 - 1 = ((p + 7 : Nat) : Int) from by omega, andNot7 _ (by omega)]
  · rw [if_neg (by decide), if_pos rfl]
def alof (p : Int) : Int := Go.bits .andNot .i64 (wrap64 ((wrap64 (p + 8)) - 1)) 7
theorem alof_ok (p : Nat) (hp : p ≤ 800000) : wrap64 (Int.tdiv (alof p) 8) = (((p + 7) / 8 : Nat) : Int) := by
  unfold alof
  rw [w64 (x := (p : Int) + 8) (by omega) (by omega), w64 (x := (p : Int) + 8 - 1) (by omega) (by omega), show (p : Int) + 8 - 1 = ((p + 7 : Nat) : Int) from by omega, andNot7 _ (by omega), Int.tdiv_eq_ediv_of_nonneg (by omega), w64 (by omega) (by omega)]
  omega
theorem bytes_eq (S : ByteArray) (p : Int) (bad : Bool) (n : Int) : bits_Reader_Bytes.f S p bad n = (if (!bad) = true then (if n < 0 then some ((⟨#[]⟩ : ByteArray), S, p, true) else (if n > wrap64 ((S.size : Int) - wrap64 (Int.tdiv (alof p) 8)) then some ((⟨#[]⟩ : ByteArray), S, p, true) else (if 0 ≤ wrap64 (Int.tdiv (alof p) 8) then (if wrap64 (Int.tdiv (alof p) 8) ≤ wrap64 (wrap64 (Int.tdiv (alof p) 8) + n) then (if wrap64 (wrap64 (Int.tdiv (alof p) 8) + n) ≤ (S.size : Int) then some (S.extract (wrap64 (Int.tdiv (alof p) 8)).toNat (wrap64 (wrap64 (Int.tdiv (alof p) 8) + n)).toNat, S, wrap64 (8 * wrap64 (wrap64 (Int.tdiv (alof p) 8) + n)), bad) else none) else none) else none))) else some ((⟨#[]⟩ : ByteArray), S, p, bad)) := rfl
/-- Bytes: the piece, or it fails. -/
theorem bytes_ok (S : ByteArray) (p q n : Nat) (hS : S.size ≤ 100000) (hp : p ≤ 8 * S.size) (hq : (p + 7) / 8 = q) (hn : q + n ≤ S.size) : bits_Reader_Bytes.f S (p : Int) false (n : Int) = some (S.extract q (q + n), S, ((8 * (q + n) : Nat) : Int), false) := by
  have h1 := alof_ok p (by omega)
  rw [hq] at h1
  have e1 : wrap64 ((S.size : Int) - (q : Int)) = (S.size : Int) - (q : Int) := w64 (by omega) (by omega)
  have e2 : wrap64 ((q : Int) + (n : Int)) = ((q + n : Nat) : Int) := by rw [w64 (by omega) (by omega)]; omega
  have e3 : wrap64 (8 * ((q + n : Nat) : Int)) = ((8 * (q + n) : Nat) : Int) := by rw [w64 (by omega) (by omega)]; omega
  rw [bytes_eq, h1, e1, e2, e3, if_pos (by decide), if_neg (by omega), if_neg (by omega), if_pos (by omega), if_pos (by omega), if_pos (by omega), Int.toNat_natCast, Int.toNat_natCast]
theorem bytes_fail (S : ByteArray) (p : Nat) (bad : Bool) (n : Int) (hS : S.size ≤ 100000) (hp : p ≤ 8 * S.size) (h : bad = true ∨ n < 0 ∨ (S.size : Int) - ((p + 7) / 8 : Nat) < n) : bits_Reader_Bytes.f S (p : Int) bad n = some ((⟨#[]⟩ : ByteArray), S, (p : Int), true) := by
  have h1 := alof_ok p (by omega)
  obtain ⟨q, hq⟩ : ∃ q, (p + 7) / 8 = q := ⟨_, rfl⟩
  rw [hq] at h1 h
  have e1 : wrap64 ((S.size : Int) - (q : Int)) = (S.size : Int) - (q : Int) := w64 (by omega) (by omega)
  rw [bytes_eq, h1, e1]
  cases bad
  · rw [if_pos (by decide)]
    by_cases h0 : n < 0
    · rw [if_pos h0]
    · rw [if_neg h0, if_pos (by rcases h with h | h | h <;> first | cases h | omega)]
  · rw [if_neg (by decide)]

theorem bt_piece (s : ByteArray) (a b i : Nat) (h : a + i < b) (hb : b ≤ s.size) : bt (s.extract a b) (i : Int) = bt s ((a + i : Nat) : Int) := by
  have hsz : (s.extract a b).size = b - a := by rw [ByteArray.size_extract]; omega
  unfold bt
  rw [dif_pos (by rw [Int.toNat_natCast]; omega), dif_pos (by rw [Int.toNat_natCast]; omega)]
  simp only [Int.toNat_natCast, ByteArray.getElem_extract]
/-- A piece of a text, as the bytes of a number. -/
theorem piece (S : ByteArray) (Z q n : Nat) (hZ : ∀ i, i < S.size → bt S (i : Int) = ((Z / 256 ^ i % 256 : Nat) : Int)) (hn : q + n ≤ S.size) : strOfNums (by8 (Z / 2 ^ (8 * q) % 2 ^ (8 * n)) n) = S.extract q (q + n) := by
  have hsz : (S.extract q (q + n)).size = n := by rw [ByteArray.size_extract]; omega
  refine ba_ext _ _ (by rw [str_size, by8_len, hsz]) fun i hi => ?_
  rw [str_size, by8_len] at hi
  rw [str_get _ _ (by rw [by8_len]; exact hi) (by8_range _ _), by8_get _ _ _ hi, bt_piece S q (q + n) i (by omega) hn, hZ _ (by omega)]
  congr 1
  rw [show 8 * n = 8 * i + (8 * (n - i)) from by omega, Nat.pow_add, show (256 : Nat) ^ i = 2 ^ (8 * i) from by rw [Nat.pow_mul], Nat.mod_mul_right_div_self, Nat.mod_mod_of_dvd _ (by rw [show 8 * (n - i) = 8 + 8 * (n - i - 1) from by omega, Nat.pow_add]; exact Nat.dvd_mul_right _ _), Nat.div_div_eq_div_mul, ← Nat.pow_add, show 8 * q + 8 * i = 8 * (q + i) from by omega, Nat.pow_mul]

theorem run_append_str_lies {P : Program} (w : World) (base : Nat) (t u ty e : TypeId) (i : TypeInfo) (ht : P.underlying t = some (.slice e)) (hu : P.underlying u = some .string) (hi : P.info? e = some i) (hz : i.zero = some (.int .u8 0))
    (hsize : i.size = 1) (hby : i.bytes = 1) (v : Value) (n : Nat) (xs : List Value) (hown : w.ownsRow base e 1 v n xs) (s : ByteArray)
    (h63 : n + s.size ≤ maxLen) (hbytes : n + s.size ≤ 140737488355328) (hbase : base ≤ w.heap.size) :
    ∃ v' w', (Builtin.append_ #[t, u] ty #[v, .string s]).run P w = .ok v' w' ∧ w'.ownsRow base e 1 v' (n + s.size) (xs ++ Lib.strCells s) ∧ w.grownBy w' v.ownBlock ∧ (v'.ownBlock = v.ownBlock ∨ v'.ownBlock = some w.heap.size) := by
  obtain ⟨v', w', hr, h2, h3, h4⟩ := Lib.run_append_own_string (P := P) w base t u ty e i ht hu hi hz hsize hby v n xs hown s h63 hbytes hbase
  refine ⟨v', w', hr, h2, h3, ?_⟩
  have hm63 : n + s.size ≤ 9223372036854775807 := by simp only [maxLen] at h63; omega
  have hxl : xs.length = n := by simpa using hown.1
  rcases hown.2 with ⟨rfl, rfl⟩ | ⟨g, cap, cur, rfl, hbg, hg, hnc, hcm, hcs, htake⟩
  · by_cases hm : s.size = 0
    · rw [h4.2 ⟨rfl, hm⟩]; exact .inl rfl
    · have hr2 := run_append_nil_string (P := P) w t u ty e i (.int .u8 0) ht hu hi hz s (by omega) (by omega) (by rw [hby]; omega)
      rw [hr] at hr2
      injection hr2 with e1 e2
      subst e1
      exact .inr rfl
  · by_cases hroom : n + s.size ≤ cap
    · have hr2 := Lib.run_append_room_string (P := P) w t u ty e i ht hu hi hsize g n cap cur hg s hroom (by simp at hcs; omega)
      rw [hr] at hr2
      injection hr2 with e1 e2
      subst e1
      exact .inl rfl
    · have holds : ∀ j u, xs[j]? = some u → w.cell? ((⟨g, 0, none⟩ : Addr).add j) = some u := hown.cells (g := g) rfl
      have hr2 := Lib.run_append_grow_string (P := P) w t u ty e i (.int .u8 0) ht hu hi hz ⟨g, 0, none⟩ n cap xs (by rw [hsize]; simpa using hxl) holds s (by omega) (by omega) (by rw [hby]; exact growslice_fits (by omega) (by omega))
      rw [hr] at hr2
      injection hr2 with e1 e2
      subst e1
      exact .inr rfl
/-- .. as a step of a region that draws its order. -/
theorem step_append_str {P : Program} {w : World} {ops : Array Oper} {o : Oper} {a : Act} {K : Act → World → Prop} {Q : Exit → Act → World → Prop} {E : Prop} (hgd : o.guard = none) (sl x : Operand) (t u : TypeId)
    (ho : o.op = .call { callee := .builtin .append, args := #[sl, x], argTypes := #[t, u] })
    (base : Nat) (e : TypeId) (i : TypeInfo) (ht : P.underlying t = some (.slice e)) (hu : P.underlying u = some .string) (hi : P.info? e = some i) (hz : i.zero = some (.int .u8 0))
    (hsize : i.size = 1) (hby : i.bytes = 1) (v : Value) (n : Nat) (xs : List Value) (hs : a.eval sl = v) (hown : w.ownsRow base e 1 v n xs) (s : ByteArray) (hx : a.eval x = .string s)
    (h63 : n + s.size ≤ maxLen) (hbytes : n + s.size ≤ 140737488355328) (hbase : base ≤ w.heap.size) (H : Nat) (hH : w.heap.size = H)
    (h : ∀ A' c' w', w'.ownsRow base e 1 (.slice A' (n + s.size) c') (n + s.size) (xs ++ Lib.strCells s) → w.grownBy w' v.ownBlock → ((Value.slice A' (n + s.size) c').ownBlock = v.ownBlock ∨ (Value.slice A' (n + s.size) c').ownBlock = some H) → K (a.put o.dst (.slice A' (n + s.size) c')) w') :
    if Region.wanted o (yielded ops a.tmps) = true then Oper.wp P o a w K Q else E := by
  have hw : Region.wanted o (yielded ops a.tmps) = true := by simp [Region.wanted, hgd]
  rw [if_pos hw]
  obtain ⟨v', w', hr, h2, h3, h4⟩ := run_append_str_lies (P := P) w base t u o.type e i ht hu hi hz hsize hby v n xs hown s h63 hbytes hbase
  obtain ⟨A', c', rfl⟩ := own_form h2
  unfold Oper.wp execOp
  simp only [ho, resolve, invoke, builtin, Sem.run_bind, Sem.run_pure, Result.andThen_ok, List.map_toArray, List.map_cons, List.map_nil, hs, hx, hr]
  exact h A' c' w' h2 h3 (by rw [hH] at h4; exact h4)
/-- .. and in a plain region. -/
theorem wpList_append_str {P : Program} {w : World} {ops : Array Oper} {rest : List Oper} {o : Oper} {a : Act} {Q : Exit → Act → World → Prop} (hgd : o.guard = none) (sl x : Operand) (t u : TypeId)
    (ho : o.op = .call { callee := .builtin .append, args := #[sl, x], argTypes := #[t, u] })
    (base : Nat) (e : TypeId) (i : TypeInfo) (ht : P.underlying t = some (.slice e)) (hu : P.underlying u = some .string) (hi : P.info? e = some i) (hz : i.zero = some (.int .u8 0))
    (hsize : i.size = 1) (hby : i.bytes = 1) (v : Value) (n : Nat) (xs : List Value) (hs : a.eval sl = v) (hown : w.ownsRow base e 1 v n xs) (s : ByteArray) (hx : a.eval x = .string s)
    (h63 : n + s.size ≤ maxLen) (hbytes : n + s.size ≤ 140737488355328) (hbase : base ≤ w.heap.size) (H : Nat) (hH : w.heap.size = H)
    (h : ∀ A' c' w', w'.ownsRow base e 1 (.slice A' (n + s.size) c') (n + s.size) (xs ++ Lib.strCells s) → w.grownBy w' v.ownBlock → ((Value.slice A' (n + s.size) c').ownBlock = v.ownBlock ∨ (Value.slice A' (n + s.size) c').ownBlock = some H) → wpList P ops Q rest (a.put o.dst (.slice A' (n + s.size) c')) w') : wpList P ops Q (o :: rest) a w := by
  refine wpList_plain hgd fun K hK => ?_
  obtain ⟨v', w', hr, h2, h3, h4⟩ := run_append_str_lies (P := P) w base t u o.type e i ht hu hi hz hsize hby v n xs hown s h63 hbytes hbase
  obtain ⟨A', c', rfl⟩ := own_form h2
  unfold Oper.wp execOp
  simp only [ho, resolve, invoke, builtin, Sem.run_bind, Sem.run_pure, Result.andThen_ok, List.map_toArray, List.map_cons, List.map_nil, hs, hx, hr]
  exact hK _ _ (h A' c' w' h2 h3 (by rw [hH] at h4; exact h4))
/-- append of a slice, nil or not, onto a row of the call's own. -/
theorem run_append_vec {P : Program} (w : World) (base : Nat) (t ty e : TypeId) (i : TypeInfo) (z : Value) (size bytes : Nat) (ht : P.underlying t = some (.slice e)) (hi : P.info? e = some i) (hz : i.zero = some z)
    (hsize : i.size = size) (hby : i.bytes = bytes) (hzs : z.cells.size = size) (hsz : 0 < size)
    (v : Value) (n : Nat) (xs : List Value) (hown : w.ownsRow base e size v n xs)
    (A : Option Addr) (m c : Nat) (news : List Value) (hl : news.length = m * size) (hr : 0 < m → ∃ ad, A = some ad ∧ ∀ j u, news[j]? = some u → w.cell? (ad.add j) = some u) (h1 : ∀ u ∈ news, u.oneCell' = true)
    (h63 : n + m ≤ maxLen) (hbytes : (n + m) * bytes ≤ 140737488355328) (hbase : base ≤ w.heap.size) :
    ∃ v' w', (Builtin.append_ #[t, t] ty #[v, .slice A m c]).run P w = .ok v' w' ∧ w'.ownsRow base e size v' (n + m) (xs ++ news) ∧ w.grownBy w' v.ownBlock ∧ (v'.ownBlock = v.ownBlock ∨ v'.ownBlock = some w.heap.size) := by
  rcases A with _ | ad
  · have hm : m = 0 := by
      rcases Nat.eq_zero_or_pos m with h0 | h0
      · exact h0
      · obtain ⟨ad, h, _⟩ := hr h0
        cases h
    subst hm
    have hn : news = [] := List.eq_nil_of_length_eq_zero (by simpa using hl)
    subst hn
    refine ⟨v, w, ?_, by simpa using hown, World.grownBy.refl w _, .inl rfl⟩
    rcases hown.2 with ⟨rfl, rfl⟩ | ⟨g, cap, cur, rfl, _, _, hnc, _⟩
    · simp [Builtin.append_, run_underlying ht, sizeOf, typeInfo, hi, Builtin.lenOf, Builtin.firstCells]
    · simp [Builtin.append_, run_underlying ht, sizeOf, typeInfo, hi, Builtin.lenOf, Builtin.firstCells, hnc, storeCells]
  · have hcells : ∀ j u, news[j]? = some u → w.cell? (ad.add j) = some u := by
      intro j u hu
      rcases Nat.eq_zero_or_pos m with h0 | h0
      · subst h0
        have hn : news = [] := List.eq_nil_of_length_eq_zero (by simpa using hl)
        subst hn
        simp at hu
      · obtain ⟨ad', h, hc⟩ := hr h0
        injection h with h
        subst h
        exact hc j u hu
    obtain ⟨v', w', hrun, h2, h3, _, h5⟩ := run_append_own_at (P := P) w base t ty e i z size bytes ht hi hz hsize hby hzs hsz v n xs hown ad m c news hl hcells h1 h63 hbytes hbase
    exact ⟨v', w', hrun, h2, h3, h5⟩
theorem wp_append_vec {P : Program} {w : World} {o : Oper} {a : Act} {K : Act → World → Prop} {Q : Exit → Act → World → Prop} (s x : Operand) (t : TypeId)
    (ho : o.op = .call { callee := .builtin .append, args := #[s, x], argTypes := #[t, t] })
    (base : Nat) (e : TypeId) (i : TypeInfo) (z : Value) (size bytes : Nat) (ht : P.underlying t = some (.slice e)) (hi : P.info? e = some i) (hz : i.zero = some z)
    (hsize : i.size = size) (hby : i.bytes = bytes) (hzs : z.cells.size = size) (hsz : 0 < size)
    (v : Value) (n : Nat) (xs : List Value) (hs : a.eval s = v) (hown : w.ownsRow base e size v n xs)
    (A : Option Addr) (m c : Nat) (news : List Value) (hx : a.eval x = .slice A m c) (hl : news.length = m * size) (hr : 0 < m → ∃ ad, A = some ad ∧ ∀ j u, news[j]? = some u → w.cell? (ad.add j) = some u) (h1 : ∀ u ∈ news, u.oneCell' = true)
    (h63 : n + m ≤ maxLen) (hbytes : (n + m) * bytes ≤ 140737488355328) (hbase : base ≤ w.heap.size) (H : Nat) (hH : w.heap.size = H)
    (h : ∀ A' c' w', w'.ownsRow base e size (.slice A' (n + m) c') (n + m) (xs ++ news) → w.grownBy w' v.ownBlock → ((Value.slice A' (n + m) c').ownBlock = v.ownBlock ∨ (Value.slice A' (n + m) c').ownBlock = some H) → K (a.put o.dst (.slice A' (n + m) c')) w') : o.wp P a w K Q := by
  obtain ⟨v', w', hrun, h2, h3, h4⟩ := run_append_vec (P := P) w base t o.type e i z size bytes ht hi hz hsize hby hzs hsz v n xs hown A m c news hl hr h1 h63 hbytes hbase
  obtain ⟨A', c', rfl⟩ := own_form h2
  unfold Oper.wp execOp
  simp only [ho, resolve, invoke, builtin, Sem.run_bind, Sem.run_pure, Result.andThen_ok, List.map_toArray, List.map_cons, List.map_nil, hs, hx, hrun]
  exact h A' c' w' h2 h3 (by rw [hH] at h4; exact h4)
theorem step_append_vec {P : Program} {w : World} {ops : Array Oper} {o : Oper} {a : Act} {K : Act → World → Prop} {Q : Exit → Act → World → Prop} {E : Prop} (hgd : o.guard = none) (s x : Operand) (t : TypeId)
    (ho : o.op = .call { callee := .builtin .append, args := #[s, x], argTypes := #[t, t] })
    (base : Nat) (e : TypeId) (i : TypeInfo) (z : Value) (size bytes : Nat) (ht : P.underlying t = some (.slice e)) (hi : P.info? e = some i) (hz : i.zero = some z)
    (hsize : i.size = size) (hby : i.bytes = bytes) (hzs : z.cells.size = size) (hsz : 0 < size)
    (v : Value) (n : Nat) (xs : List Value) (hs : a.eval s = v) (hown : w.ownsRow base e size v n xs)
    (A : Option Addr) (m c : Nat) (news : List Value) (hx : a.eval x = .slice A m c) (hl : news.length = m * size) (hr : 0 < m → ∃ ad, A = some ad ∧ ∀ j u, news[j]? = some u → w.cell? (ad.add j) = some u) (h1 : ∀ u ∈ news, u.oneCell' = true)
    (h63 : n + m ≤ maxLen) (hbytes : (n + m) * bytes ≤ 140737488355328) (hbase : base ≤ w.heap.size) (H : Nat) (hH : w.heap.size = H)
    (h : ∀ A' c' w', w'.ownsRow base e size (.slice A' (n + m) c') (n + m) (xs ++ news) → w.grownBy w' v.ownBlock → ((Value.slice A' (n + m) c').ownBlock = v.ownBlock ∨ (Value.slice A' (n + m) c').ownBlock = some H) → K (a.put o.dst (.slice A' (n + m) c')) w') :
    if Region.wanted o (yielded ops a.tmps) = true then Oper.wp P o a w K Q else E := by
  have hw : Region.wanted o (yielded ops a.tmps) = true := by simp [Region.wanted, hgd]
  rw [if_pos hw]
  exact wp_append_vec s x t ho base e i z size bytes ht hi hz hsize hby hzs hsz v n xs hs hown A m c news hx hl hr h1 h63 hbytes hbase H hH h
theorem wpList_append_vec {P : Program} {w : World} {ops : Array Oper} {rest : List Oper} {o : Oper} {a : Act} {Q : Exit → Act → World → Prop} (hgd : o.guard = none) (s x : Operand) (t : TypeId)
    (ho : o.op = .call { callee := .builtin .append, args := #[s, x], argTypes := #[t, t] })
    (base : Nat) (e : TypeId) (i : TypeInfo) (z : Value) (size bytes : Nat) (ht : P.underlying t = some (.slice e)) (hi : P.info? e = some i) (hz : i.zero = some z)
    (hsize : i.size = size) (hby : i.bytes = bytes) (hzs : z.cells.size = size) (hsz : 0 < size)
    (v : Value) (n : Nat) (xs : List Value) (hs : a.eval s = v) (hown : w.ownsRow base e size v n xs)
    (A : Option Addr) (m c : Nat) (news : List Value) (hx : a.eval x = .slice A m c) (hl : news.length = m * size) (hr : 0 < m → ∃ ad, A = some ad ∧ ∀ j u, news[j]? = some u → w.cell? (ad.add j) = some u) (h1 : ∀ u ∈ news, u.oneCell' = true)
    (h63 : n + m ≤ maxLen) (hbytes : (n + m) * bytes ≤ 140737488355328) (hbase : base ≤ w.heap.size) (H : Nat) (hH : w.heap.size = H)
    (h : ∀ A' c' w', w'.ownsRow base e size (.slice A' (n + m) c') (n + m) (xs ++ news) → w.grownBy w' v.ownBlock → ((Value.slice A' (n + m) c').ownBlock = v.ownBlock ∨ (Value.slice A' (n + m) c').ownBlock = some H) → wpList P ops Q rest (a.put o.dst (.slice A' (n + m) c')) w') : wpList P ops Q (o :: rest) a w :=
  wpList_plain hgd fun _ hK => wp_append_vec s x t ho base e i z size bytes ht hi hz hsize hby hzs hsz v n xs hs hown A m c news hx hl hr h1 h63 hbytes hbase H hH fun A' c' w' h2 h3 h4 => hK _ _ (h A' c' w' h2 h3 h4)



open XInflateAny XTok
theorem encs_bytesOf (T : ByteArray) : encs (Value.int .u8) (bytesOf T) = Lib.strCells T := by
  simp [encs, bytesOf, Lib.strCells]
theorem xor_turned (n : Nat) (h : n < 65536) : Go.bits .xor .i64 (n : Int) 65535 = ((65535 - n : Nat) : Int) := by
  have e : n ^^^ 65535 = 65535 - n := by
    have e1 : ∀ i, Nat.testBit 65535 i = decide (i < 16) := fun i => Nat.testBit_two_pow_sub_one 16 i
    apply Nat.eq_of_testBit_eq
    intro i
    rw [Nat.testBit_xor, e1, show 65535 - n = 2 ^ 16 - (n + 1) from by omega, Nat.testBit_two_pow_sub_succ (show n < 2 ^ 16 from h)]
    by_cases hi : i < 16
    · rw [decide_eq_true hi]; simp
    · have : n.testBit i = false := Nat.testBit_lt_two_pow (Nat.lt_of_lt_of_le (show n < 2 ^ 16 from h) (Nat.pow_le_pow_right (by decide) (by omega)))
      rw [decide_eq_false hi, this]; rfl
  show IntKind.i64.wrap ((BitVec.ofInt 64 (n : Int) ^^^ BitVec.ofInt 64 65535).toNat : Int) = _
  have e2 : (BitVec.ofInt 64 65535).toNat = 65535 := by decide
  rw [BitVec.toNat_xor, e2, BitVec.ofInt_natCast, BitVec.toNat_ofNat, Nat.mod_eq_of_lt (by omega), e, i64_w]
  unfold wrap64
  omega
theorem stored_end (S : ByteArray) (Z p1 n : Nat) (out : List Int) (R : Except Int (Nat × List Int)) (hZ : IsZ S Z) (h8 : p1 % 8 = 0) (hp : p1 + 32 ≤ 8 * S.size)
    (h : (if 8 * S.size < p1 + 32 + 8 * n then Except.error (3 : Int) else Except.ok (p1 + 32 + 8 * n, out ++ by8 (Z / 2 ^ (p1 + 32) % 2 ^ (8 * n)) n)) = R) :
    ∃ (T : ByteArray) (p2 : Nat) (bad2 : Bool), bits_Reader_Bytes.f S ((p1 + 16 + 16 : Nat) : Int) false n = some (T, S, (p2 : Int), bad2) ∧ T.size ≤ n ∧ ((bad2 = true ∧ R = .error 3) ∨ (bad2 = false ∧ R = .ok (p2, out ++ bytesOf T) ∧ p2 ≤ 8 * S.size ∧ T.size = n)) := by
  obtain ⟨q, hq⟩ : ∃ q, p1 + 32 = 8 * q := ⟨(p1 + 32) / 8, by omega⟩
  by_cases h1 : 8 * S.size < p1 + 32 + 8 * n
  · rw [if_pos h1] at h
    refine ⟨⟨#[]⟩, p1 + 32, true, ?_, Nat.zero_le _, .inl ⟨rfl, h.symm⟩⟩
    exact bytes_fail S (p1 + 32) false n hZ.1 (by omega) (.inr (.inr (by omega)))
  · rw [if_neg h1] at h
    have hb := bytes_ok S (p1 + 32) q n hZ.1 (by omega) (by omega) (by omega)
    have hpc := piece S Z q n hZ.2 (by omega)
    rw [hq] at h
    have hsz : (S.extract q (q + n)).size = n := by rw [ByteArray.size_extract]; omega
    have hbo : bytesOf (S.extract q (q + n)) = by8 (Z / 2 ^ (8 * q) % 2 ^ (8 * n)) n := by
      apply List.ext_getElem
      · rw [bytesOf_length, by8_len, hsz]
      · intro i h2 h3
        have e := rd_bytesOf (S.extract q (q + n)) (i : Int)
        rw [by8_len] at h3
        rw [← hpc, str_get _ _ (by rw [by8_len]; exact h3) (by8_range _ _), hpc] at e
        unfold rd at e
        rw [Int.toNat_natCast, List.getD_eq_getElem?_getD, List.getElem?_eq_getElem h2, Option.getD_some, List.getD_eq_getElem?_getD, List.getElem?_eq_getElem (by rw [by8_len]; exact h3), Option.getD_some] at e
        exact e
    refine ⟨S.extract q (q + n), 8 * (q + n), false, hb, by omega, .inr ⟨rfl, ?_, by omega, hsz⟩⟩
    rw [hbo, ← h]
    congr 2
    omega
set_option maxHeartbeats 4000000 in
set_option maxRecDepth 100000 in
theorem stored_calls (g gr : Nat) (S : ByteArray) (Z p : Nat) (vo vk : Value) (out ks : List Int) (most : Int) (w0 w : World) (hX : IsX w0 w g gr S p false vo out most vk ks) (hZ : IsZ S Z) (hp : p ≤ 8 * S.size)
    (hm : most ≤ 4194304) (ho : out.length ≤ 4194304) :
    Calls Try.prog 119 #[.pointer (some ⟨g, 0, none⟩)] w fun e w' => XPost w0 w g gr S vo most vk ks (storedS Z (8 * S.size) most p out) e w' := by
  obtain ⟨R, hR⟩ : ∃ R, storedS Z (8 * S.size) most p out = R := ⟨_, rfl⟩
  rw [hR]
  have hS := hZ.1
  have hal := align_ok S p false (by omega)
  rw [if_neg (by decide)] at hal
  obtain ⟨p1, hp1⟩ : ∃ q, (p + 7) / 8 * 8 = q := ⟨_, rfl⟩
  unfold storedS at hR
  rw [hp1] at hal hR
  have HX := Aside0.mk hX
  have HAL := Aside0.mk hal
  have hc0 := blk_cell hX.1 0
  have HZ := Aside0.mk hZ
  have hp1b : p1 ≤ 8 * S.size := by omega
  have hp18 : p1 % 8 = 0 := by omega
  clear hX hal hZ hp1
  by_cases h1 : 8 * S.size < p1 + 32
  · rw [if_pos h1] at hR
    have HR := Aside0.mk hR
    clear hR
    go_enter Try.func119, Try.ntmps119
    go_wp2_with fail
    refine (bits_Reader_Align.calls gr S (p : Int) false S (p1 : Int) false w0 _ HX.out.2.2.1 HX.out.2.2.2.2.2 HAL.out).mono ?_
    rintro e w1 ⟨rfl, hI, hB, hk⟩
    have HX1 := Aside0.mk (HX.out.reader hI hB hk)
    have HK1 := Aside0.mk hk
    clear hI hB hk HAL hc0
    by_cases h2 : 8 * S.size < p1 + 16
    · go_wp2_with fail
      refine (number_bad g gr S p1 16 false vo vk out ks most w0 w1 HX1.out hS hp1b (.inr h2)).mono ?_
      rintro e w2 ⟨rfl, hX2, hk2⟩
      have HX2 := Aside0.mk hX2
      clear hX2 hk2
      go_wp2_with fail
      refine (number_bad g gr S p1 16 true vo vk out ks most w0 w2 HX2.out hS hp1b (.inl rfl)).mono ?_
      rintro e w3 ⟨rfl, hX3, hk3⟩
      have HX3 := Aside0.mk hX3
      clear hX3 hk3
      go_wp2
      go_ret
      exact .inl ⟨3, HR.out.symm, rfl, HX3.out.2.2.2.2.2, by decide⟩
    · go_wp2_with fail
      refine (number_ok g gr S Z p1 16 vo vk out ks most w0 w1 HX1.out HZ.out (by omega) (by omega)).mono ?_
      rintro e w2 ⟨rfl, hX2, hk2⟩
      have HX2 := Aside0.mk hX2
      clear hX2 hk2
      go_wp2_with fail
      refine (number_bad g gr S (p1 + 16) 16 false vo vk out ks most w0 w2 HX2.out hS (by omega) (.inr (by omega))).mono ?_
      rintro e w3 ⟨rfl, hX3, hk3⟩
      have HX3 := Aside0.mk hX3
      clear hX3 hk3
      go_wp2
      go_ret
      exact .inl ⟨3, HR.out.symm, rfl, HX3.out.2.2.2.2.2, by decide⟩
  rw [if_neg h1] at hR
  unfold storedS2 at hR
  obtain ⟨n, hn⟩ : ∃ n, Z / 2 ^ p1 % 2 ^ 16 = n := ⟨_, rfl⟩
  obtain ⟨m, hm2⟩ : ∃ m, Z / 2 ^ (p1 + 16) % 2 ^ 16 = m := ⟨_, rfl⟩
  have hN1 := fun W hX => number_ok g gr S Z p1 16 vo vk out ks most w0 W hX HZ.out (by omega) (by omega)
  have hN2 := fun W hX => number_ok g gr S Z (p1 + 16) 16 vo vk out ks most w0 W hX HZ.out (by omega) (by omega)
  have hn16 : n < 65536 := by rw [← hn]; exact Nat.mod_lt _ (by decide)
  have hm16 : m < 65536 := by rw [← hm2]; exact Nat.mod_lt _ (by decide)
  rw [hn] at hN1 hR
  rw [hm2] at hN2 hR
  have HN1 := Aside0.mk hN1
  have HN2 := Aside0.mk hN2
  have hx := xor_turned n hn16
  clear hN1 hN2 hn hm2
  by_cases h2 : m + n ≠ 65535
  · rw [if_pos h2] at hR
    have HR := Aside0.mk hR
    have q0 : (((65535 - n : Nat) : Int) == (m : Int)) = false := beq_eq_false_iff_ne.mpr (by omega)
    have q1 : (((65535 - n : Nat) : Int) != (m : Int)) = true := bne_iff_ne.mpr (by omega)
    obtain ⟨t, ht⟩ : ∃ t : Int, ((65535 - n : Nat) : Int) = t := ⟨_, rfl⟩
    rw [ht] at q0 q1 hx
    clear hR h1 h2 ht
    go_enter Try.func119, Try.ntmps119
    go_wp2_with fail
    refine (bits_Reader_Align.calls gr S (p : Int) false S (p1 : Int) false w0 _ HX.out.2.2.1 HX.out.2.2.2.2.2 HAL.out).mono ?_
    rintro e w1 ⟨rfl, hI, hB, hk⟩
    have HX1 := Aside0.mk (HX.out.reader hI hB hk)
    have HK1 := Aside0.mk hk
    clear hI hB hk HAL hc0
    go_wp2_with fail
    refine (HN1.out _ HX1.out).mono ?_
    rintro e w2 ⟨rfl, hX2, hk2⟩
    have HX2 := Aside0.mk hX2
    have HK2 := Aside0.mk (HK1.out.trans hk2 (.inl rfl))
    clear hX2 hk2 HX1 HK1 HN1
    go_wp2_with fail
    refine (HN2.out _ HX2.out).mono ?_
    rintro e w3 ⟨rfl, hX3, hk3⟩
    have HX3 := Aside0.mk hX3
    have HK3 := Aside0.mk (HK2.out.trans hk3 (.inl rfl))
    clear hX3 hk3 HX2 HK2 HN2
    go_wp2
    go_ret
    exact .inl ⟨2, HR.out.symm, rfl, HX3.out.2.2.2.2.2, by decide⟩
  rw [if_neg h2] at hR
  have q0 : ((m : Int) == (m : Int)) = true := beq_self_eq_true _
  have q1 : ((m : Int) != (m : Int)) = false := bne_self_eq_false _
  obtain rfl : m = 65535 - n := by omega
  by_cases h3 : most < (out.length : Int) + n
  · rw [if_pos h3] at hR
    have HR := Aside0.mk hR
    have d3 : decide (most < (out.length : Int) + n) = true := decide_eq_true h3
    clear hR h1 h2
    go_enter Try.func119, Try.ntmps119
    go_wp2_with fail
    refine (bits_Reader_Align.calls gr S (p : Int) false S (p1 : Int) false w0 _ HX.out.2.2.1 HX.out.2.2.2.2.2 HAL.out).mono ?_
    rintro e w1 ⟨rfl, hI, hB, hk⟩
    have HX1 := Aside0.mk (HX.out.reader hI hB hk)
    have HK1 := Aside0.mk hk
    clear hI hB hk HAL hc0
    go_wp2_with fail
    refine (HN1.out _ HX1.out).mono ?_
    rintro e w2 ⟨rfl, hX2, hk2⟩
    have HX2 := Aside0.mk hX2
    have HK2 := Aside0.mk (HK1.out.trans hk2 (.inl rfl))
    clear hX2 hk2 HX1 HK1 HN1
    go_wp2_with fail
    refine (HN2.out _ HX2.out).mono ?_
    rintro e w3 ⟨rfl, hX3, hk3⟩
    have HX3 := Aside0.mk hX3
    have HK3 := Aside0.mk (HK2.out.trans hk3 (.inl rfl))
    clear hX3 hk3 HX2 HK2 HN2
    have hc1 := (blk_cell HX3.out.1 1)
    have hc2 := (blk_cell HX3.out.1 2)
    obtain ⟨A', c', rfl⟩ := own_form HX3.out.2.2.2.1
    go_wp2
    go_region
    go_wp2
    go_ret
    exact .inl ⟨7, HR.out.symm, rfl, (HX3.out.below (show Below w3.heap.size w3 w3.drew from below_drew1 (Below.refl _ _))).2.2.2.2.2, by decide⟩
  rw [if_neg h3] at hR
  have d3 : decide (most < (out.length : Int) + n) = false := decide_eq_false h3
  obtain ⟨T, p2, bad2, hby, hT, hRR⟩ := stored_end S Z p1 n out R HZ.out hp18 (by omega) hR
  have HBY := Aside0.mk hby
  have HRR := Aside0.mk hRR
  obtain ⟨i0, hi0, hz0, hz1, hz2⟩ := info_parts info5
  clear hR hby hRR
  go_enter Try.func119, Try.ntmps119
  go_wp2_with fail
  refine (bits_Reader_Align.calls gr S (p : Int) false S (p1 : Int) false w0 _ HX.out.2.2.1 HX.out.2.2.2.2.2 HAL.out).mono ?_
  rintro e w1 ⟨rfl, hI, hB, hk⟩
  have HX1 := Aside0.mk (HX.out.reader hI hB hk)
  have HK1 := Aside0.mk hk
  clear hI hB hk HAL hc0
  go_wp2_with fail
  refine (HN1.out _ HX1.out).mono ?_
  rintro e w2 ⟨rfl, hX2, hk2⟩
  have HX2 := Aside0.mk hX2
  have HK2 := Aside0.mk (HK1.out.trans hk2 (.inl rfl))
  clear hX2 hk2 HX1 HK1 HN1
  go_wp2_with fail
  refine (HN2.out _ HX2.out).mono ?_
  rintro e w3 ⟨rfl, hX3, hk3⟩
  have HX3 := Aside0.mk hX3
  have HK3 := Aside0.mk (HK2.out.trans hk3 (.inl rfl))
  clear hX3 hk3 HX2 HK2 HN2
  obtain ⟨A', c', rfl⟩ := own_form HX3.out.2.2.2.1
  have hc1 : w3.cell? ⟨g, 1, none⟩ = some (.slice A' out.length c') := (blk_cell HX3.out.1 1).trans rfl
  have hc2 := (blk_cell HX3.out.1 2)
  go_wp2
  go_region
  have HX4 := Aside0.mk (HX3.out.below (show Below w3.heap.size w3 w3.drew from below_drew1 (Below.refl _ _)))
  have HK4 := Aside0.mk (HK3.out.trans (KeepBut.of_below (show Below w3.heap.size w3 w3.drew from below_drew1 (Below.refl _ _)) gr none) (.inl rfl))
  clear HX3 HK3 hc1 hc2
  generalize w3.drew = W3 at HX4 HK4 ⊢
  have hc0 : W3.cell? ⟨g, 0, none⟩ = some (.pointer (some ⟨gr, 0, none⟩)) := (blk_cell HX4.out.1 0).trans rfl
  have hc1 : W3.cell? ⟨g, 1, none⟩ = some (.slice A' out.length c') := (blk_cell HX4.out.1 1).trans rfl
  have hTn : T.size ≤ 65535 := by omega
  go_wp2
  go_region_law
    (first
      | ((go_simp; go_at_call 139; refine (bits_Reader_Bytes.calls gr S ((p1 + 16 + 16 : Nat) : Int) false n T S (p2 : Int) bad2 w0 _ (by first | exact HX4.out.2.2.1 | exact HX4.out.2.2.1.drew) (by first | exact HX4.out.2.2.2.2.2 | exact below_drew1 HX4.out.2.2.2.2.2) HBY.out).mono ?_; rintro e w5 ⟨rfl, hI, hB, hk⟩; have HX5 := Aside0.mk (IsX.reader (by first | exact HX4.out | exact HX4.out.below (show Below W3.heap.size W3 W3.drew from below_drew1 (Below.refl _ _))) hI hB hk); have HK5 := Aside0.mk (KeepBut.trans (by first | exact HK4.out | exact HK4.out.trans (KeepBut.of_below (show Below W3.heap.size W3 W3.drew from below_drew1 (Below.refl _ _)) gr none) (.inl rfl)) hk (.inl rfl)); have hc5 : w5.cell? ⟨g, 1, none⟩ = some (.slice A' out.length c') := (blk_cell HX5.out.1 1).trans rfl; clear hI hB hk))
      | ((refine step_append_str rfl _ _ 52 9 rfl w0.heap.size 5 i0 Try.underlying52 Try.underlying9 hi0 hz0 hz1 hz2 (.slice A' out.length c') out.length (encs (Value.int .u8) out) (by rfl) (by first | exact HX5.out.2.2.2.1 | exact HX5.out.2.2.2.1.drew) T (by rfl) (by simp only [maxLen]; omega) (by omega) (below_size HX5.out.2.2.2.2.2) _ rfl ?_; intro A6 c6 w6 ho hg hat; have BK6 := Aside0.mk (show w6.heap[g]? = some (.cells #[.pointer (some ⟨gr, 0, none⟩), .slice A' out.length c', .int .i64 most, vk] 98 (0, 0)) from (hg.block g (blk_lt HX5.out.1) (own_ne' HX5.out.2.2.2.1 HX5.out.1 (by decide))).trans HX5.out.1); have HPP := Aside0.mk (IsX.push (v1 := .slice A6 (out.length + T.size) c6) (o2 := out ++ bytesOf T) HX5.out (by repeat (first | exact Below.refl _ _ | apply below_drew1 | apply below_alloc | apply pw_below_drewN)) hg (hat.elim (fun h => .inl h) (fun h => .inr ⟨_, h, Nat.le_refl _⟩)) ho (by rw [List.length_append, bytesOf_length]) (by rw [encs_append, encs_bytesOf])); have hk1 : w6.cell? ⟨g, 1, none⟩ = some (.slice A' out.length c') := (blk_cell BK6.out 1).trans rfl; have hz_1 := blk_frozen BK6.out 1; clear ho hg hat)))
  all_goals
    have HX7 := Aside0.mk HPP.out.1
    have HK7 := Aside0.mk ((KeepX.of_but HK5.out).trans HPP.out.2.1 (.inl rfl))
    have HN7 := Aside0.mk HPP.out.2.2
    have hs5 := Aside0.mk HK5.out.1
    have hc7 := blk_cell HPP.out.1.1 0
    clear hk1 hz_1 hc5 hc0 hc1 BK6 HPP
    rcases HRR.out with ⟨hbad, hR2⟩ | ⟨hbad, hR2, hp2, hTs⟩
    · subst hbad
      go_wp2_with fail
      refine (bits_Reader_Err.calls gr S (p2 : Int) true 3 S (p2 : Int) true w0 _ HX7.out.2.2.1 HX7.out.2.2.2.2.2 rfl).mono ?_
      rintro e w8 ⟨rfl, hI, hB, hk⟩
      have HB8 := Aside0.mk hB
      clear hI hB hk
      go_wp2
      go_ret
      exact .inl ⟨3, hR2, rfl, HB8.out, by decide⟩
    · subst hbad
      have HTS := Aside0.mk hTs
      have HR9 := Aside0.mk hR2
      clear hTs hR2
      go_wp2_with fail
      refine (bits_Reader_Err.calls gr S (p2 : Int) false 0 S (p2 : Int) false w0 _ HX7.out.2.2.1 HX7.out.2.2.2.2.2 rfl).mono ?_
      rintro e w8 ⟨rfl, hI, hB, hk⟩
      have HX8 := Aside0.mk (HX7.out.reader hI hB hk)
      have HN8 := Aside0.mk (show NewRow w (.slice A' out.length c') (.slice A6 (out.length + T.size) c6) from NewRow.trans (.inl rfl) HN7.out hs5.out)
      have HK8 := Aside0.mk (HK7.out.trans (KeepX.of_but hk) HN8.out)
      clear hI hB hk
      go_wp2
      go_ret
      exact .inr ⟨p2, out ++ bytesOf T, HR9.out, rfl, ⟨_, HX8.out, HK8.out, HN8.out⟩, hp2, by rw [List.length_append, bytesOf_length, HTS.out]; omega⟩



open XInflateAny XTok
theorem keep_base {w wr w1 : World} {gr : Nat} (h : KeepBut w wr gr none) (hb : Below w.heap.size wr w1) : KeepBut w w1 gr none :=
  ⟨Nat.le_trans h.1 hb.size, fun k hk a b => (hb.block k hk).trans (h.2 k hk a b)⟩
theorem below_base {w0 w wr w1 : World} (h : Below w0.heap.size w0 wr) (hb : Below w.heap.size wr w1) (hs : w0.heap.size ≤ w.heap.size) : Below w0.heap.size w0 w1 := h.trans (hb.mono hs)
theorem againB_le (s : Int) : againB s ≤ 7 := by unfold againB; split <;> (try split) <;> omega
set_option maxHeartbeats 1600000 in
set_option maxRecDepth 100000 in
theorem again_ok (g gr : Nat) (S : ByteArray) (Z p : Nat) (s : Int) (vo vk : Value) (out ks : List Int) (most : Int) (w0 w : World) (hX : IsX w0 w g gr S p false vo out most vk ks) (hZ : IsZ S Z) (hp : p + againB s ≤ 8 * S.size) :
    Calls Try.prog 159 #[.pointer (some ⟨g, 0, none⟩), .int .i64 s] w fun e w' => e = .returned (.tuple #[.int .i64 ((Z / 2 ^ p % 2 ^ againB s + againC s : Nat) : Int), .int .i64 0]) ∧ IsX w0 w' g gr S (p + againB s) false vo out most vk ks ∧ KeepBut w w' gr none := by
  have hnum := number_ok g gr S Z p (againB s) vo vk out ks most w0 w hX hZ (by have := againB_le s; omega) hp
  have hb7 := againB_le s
  have hlt : Z / 2 ^ p % 2 ^ againB s < 2 ^ 7 := Nat.lt_of_lt_of_le (Nat.mod_lt _ (Nat.two_pow_pos _)) (Nat.pow_le_pow_right (by decide) hb7)
  obtain ⟨v, hv⟩ : ∃ v, Z / 2 ^ p % 2 ^ againB s = v := ⟨_, rfl⟩
  rw [hv] at hnum hlt ⊢
  clear hv hX hZ hp hb7
  have hs : (againB s = 2 ∧ againC s = 3 ∧ s = 16) ∨ (againB s = 3 ∧ againC s = 3 ∧ s = 17) ∨ (againB s = 7 ∧ againC s = 11 ∧ s ≠ 16 ∧ s ≠ 17) := by
    unfold againB againC
    by_cases h1 : s = 16
    · exact .inl ⟨if_pos h1, if_pos (.inr h1), h1⟩
    · by_cases h2 : s = 17
      · exact .inr (.inl ⟨by rw [if_neg h1, if_pos h2], if_pos (.inl h2), h2⟩)
      · exact .inr (.inr ⟨by rw [if_neg h1, if_neg h2], if_neg (fun h => h.elim h2 h1), h1, h2⟩)
  obtain ⟨b, hb⟩ : ∃ b, againB s = b := ⟨_, rfl⟩
  obtain ⟨c, hc⟩ : ∃ c, againC s = c := ⟨_, rfl⟩
  rw [hb] at hnum hs
  rw [hc] at hs
  rw [hb, hc]
  have HB := Aside0.mk hb
  have HC := Aside0.mk hc
  clear hb hc
  rcases hs with ⟨rfl, rfl, rfl⟩ | ⟨rfl, rfl, rfl⟩ | ⟨rfl, rfl, h1, h2⟩
  · have HN := Aside0.mk hnum
    clear hnum
    go_enter Try.func159, Try.ntmps159
    go_wp2_with fail
    refine HN.out.mono ?_
    rintro e w1 ⟨rfl, hX1, hk1⟩
    have HX1 := Aside0.mk hX1
    have HK1 := Aside0.mk hk1
    clear hX1 hk1 HN
    go_wp2
    go_ret2
    exact ⟨by first | rfl | (simp; done), HX1.out, HK1.out⟩
  · have HN := Aside0.mk hnum
    clear hnum
    go_enter Try.func159, Try.ntmps159
    go_wp2_with fail
    refine HN.out.mono ?_
    rintro e w1 ⟨rfl, hX1, hk1⟩
    have HX1 := Aside0.mk hX1
    have HK1 := Aside0.mk hk1
    clear hX1 hk1 HN
    go_wp2
    go_ret2
    exact ⟨by first | rfl | (simp; done), HX1.out, HK1.out⟩
  · have HN := Aside0.mk hnum
    have e1 : (s == 16) = false := beq_eq_false_iff_ne.mpr h1
    have e2 : (s == 17) = false := beq_eq_false_iff_ne.mpr h2
    clear hnum h1 h2
    go_enter Try.func159, Try.ntmps159
    go_wp2_with fail
    refine HN.out.mono ?_
    rintro e w1 ⟨rfl, hX1, hk1⟩
    have HX1 := Aside0.mk hX1
    have HK1 := Aside0.mk hk1
    clear hX1 hk1 HN
    go_wp2
    go_ret2
    exact ⟨by first | rfl | (simp; done), HX1.out, HK1.out⟩
set_option maxHeartbeats 1600000 in
set_option maxRecDepth 100000 in
theorem again_bad (g gr : Nat) (S : ByteArray) (p : Nat) (s : Int) (vo vk : Value) (out ks : List Int) (most : Int) (w0 w : World) (hX : IsX w0 w g gr S p false vo out most vk ks) (hS : S.size ≤ 100000) (hp : p ≤ 8 * S.size) (h : 8 * S.size < p + againB s) :
    Calls Try.prog 159 #[.pointer (some ⟨g, 0, none⟩), .int .i64 s] w fun e w' => ∃ x, e = .returned (.tuple #[.int .i64 x, .int .i64 3]) ∧ Below w0.heap.size w0 w' := by
  have hnum := number_bad g gr S p (againB s) false vo vk out ks most w0 w hX hS hp (.inr h)
  clear hX hS hp h
  have hs : (againB s = 2 ∧ s = 16) ∨ (againB s = 3 ∧ s = 17) ∨ (againB s = 7 ∧ s ≠ 16 ∧ s ≠ 17) := by
    unfold againB
    by_cases h1 : s = 16
    · exact .inl ⟨if_pos h1, h1⟩
    · by_cases h2 : s = 17
      · exact .inr (.inl ⟨by rw [if_neg h1, if_pos h2], h2⟩)
      · exact .inr (.inr ⟨by rw [if_neg h1, if_neg h2], h1, h2⟩)
  obtain ⟨b, hb⟩ : ∃ b, againB s = b := ⟨_, rfl⟩
  rw [hb] at hnum hs
  clear hb
  rcases hs with ⟨rfl, rfl⟩ | ⟨rfl, rfl⟩ | ⟨rfl, h1, h2⟩
  · have HN := Aside0.mk hnum
    clear hnum
    go_enter Try.func159, Try.ntmps159
    go_wp2_with fail
    refine HN.out.mono ?_
    rintro e w1 ⟨rfl, hX1, hk1⟩
    have HX1 := Aside0.mk hX1
    clear hX1 hk1 HN
    go_wp2
    go_ret2
    exact ⟨_, rfl, HX1.out.2.2.2.2.2⟩
  · have HN := Aside0.mk hnum
    clear hnum
    go_enter Try.func159, Try.ntmps159
    go_wp2_with fail
    refine HN.out.mono ?_
    rintro e w1 ⟨rfl, hX1, hk1⟩
    have HX1 := Aside0.mk hX1
    clear hX1 hk1 HN
    go_wp2
    go_ret2
    exact ⟨_, rfl, HX1.out.2.2.2.2.2⟩
  · have HN := Aside0.mk hnum
    have e1 : (s == 16) = false := beq_eq_false_iff_ne.mpr h1
    have e2 : (s == 17) = false := beq_eq_false_iff_ne.mpr h2
    clear hnum h1 h2
    go_enter Try.func159, Try.ntmps159
    go_wp2_with fail
    refine HN.out.mono ?_
    rintro e w1 ⟨rfl, hX1, hk1⟩
    have HX1 := Aside0.mk hX1
    clear hX1 hk1 HN
    go_wp2
    go_ret2
    exact ⟨_, rfl, HX1.out.2.2.2.2.2⟩



open XInflateAny XTok
/-- What the rows of a call are: lengths, or an error. -/
def RPost (w0 w : World) (g gr : Nat) (S : ByteArray) (vo : Value) (out : List Int) (most : Int) (vk : Value) (ks : List Int) (R : Except Int (List Int × Nat)) (e : Ending) (w' : World) : Prop :=
  (∃ er, R = .error er ∧ e = .returned (.tuple #[.slice none 0 0, .int .i64 er]) ∧ Below w0.heap.size w0 w' ∧ er ≠ 0) ∨ (∃ l q v, R = .ok (l, q) ∧ e = .returned (.tuple #[v, .int .i64 0]) ∧ Kd.R (Kd.int .i64) 3 w' w.heap.size (fun _ => True) v l ∧ IsX w0 w' g gr S q false vo out most vk ks ∧ KeepBut w w' gr none ∧ q ≤ 8 * S.size)
theorem IsX.base_le {w0 W : World} {g gr : Nat} {S : ByteArray} {p : Nat} {bad : Bool} {vo vk : Value} {out ks : List Int} {most : Int} (h : IsX w0 W g gr S p bad vo out most vk ks) : w0.heap.size ≤ W.heap.size := below_size h.2.2.2.2.2
set_option maxHeartbeats 4000000 in
set_option maxRecDepth 100000 in
theorem row_calls (base gt g gr : Nat) (l1 : List Int) (k1 : Int) (S : ByteArray) (Z p n : Nat) (vo vk : Value) (out ks : List Int) (most : Int) (w0 w : World) (hX : IsX w0 w g gr S p false vo out most vk ks) (hT : IsT base w gt l1 k1) (hK : KRes l1 k1 0) (hZ : IsZ S Z) (hp : p ≤ 8 * S.size) (hn : n ≤ 1000) :
    Calls Try.prog 143 #[.pointer (some ⟨g, 0, none⟩), .pointer (some ⟨gt, 0, none⟩), .int .i64 n] w fun e w' => RPost w0 w g gr S vo out most vk ks (rowS l1 Z (8 * S.size) n (n + 1) [] p) e w' := by
  obtain ⟨R, hR⟩ : ∃ R, rowS l1 Z (8 * S.size) n (n + 1) [] p = R := ⟨_, rfl⟩
  obtain ⟨M, hM⟩ : ∃ M, 8 * S.size = M := ⟨_, rfl⟩
  rw [hR]
  rw [hM] at hR hp
  have HX := Aside0.mk hX
  have HR := Aside0.mk hR
  have HT := Aside0.mk hT
  have HMM := Aside0.mk hM
  have HK := Aside0.mk hK
  have HZ := Aside0.mk hZ
  have HW := Aside0.mk hX.base_le
  clear hX hR hT hM hK hZ
  go_enter Try.func143, Try.ntmps143
  go_wp2
  go_loopg [8] (n + 1) (fun f v8 wr => ∃ (p' : Nat) (o' : List Int), Aside0 (IsS155 w0 wr gr S (p' : Int) false) ∧ Aside0 (Below w0.heap.size w0 wr) ∧ Aside0 (KeepBut w wr gr none) ∧ Aside0 (Kd.R (Kd.int .i64) 3 wr w.heap.size (fun _ => True) v8 o') ∧ Aside0 (rowS l1 Z M n f o' p' = R) ∧ Aside0 (p' ≤ M ∧ n < o'.length + f ∧ o'.length ≤ 1000))
  case atStart => exact ⟨p, [], ⟨HX.out.2.2.1⟩, ⟨HX.out.2.2.2.2.2⟩, ⟨KeepBut.refl _ _ _⟩, ⟨Kd.R_nil _ _ _ _ _⟩, HR, ⟨hp, by simp, by simp⟩⟩
  case round =>
    clear HR hp
    obtain ⟨p', o', HI, HB, HKB, HO, HR, HP⟩ := hrel
    obtain ⟨A5, c5, rfl⟩ := Kd.R_slice HO.out
    cases gk with
    | zero =>
      have hend : n ≤ o'.length := by have := HP.out; omega
      have d0 : decide ((o'.length : Int) < (n : Int)) = false := decide_eq_false (by omega)
      have d0b : decide (o'.length < n) = false := decide_eq_false (by omega)
      have hR := HR.out
      rw [rowS] at hR
      have HR2 := Aside0.mk hR
      clear hR hend
      go_wp2
      go_ret2
      exact .inr ⟨o', p', _, HR2.out.symm, rfl, HO.out, HX.out.reader HI.out HB.out HKB.out, HKB.out, by rw [HMM.out]; exact HP.out.1⟩
    | succ f =>
      have hR := HR.out
      rw [rowS] at hR
      by_cases hend : n ≤ o'.length
      · rw [if_pos hend] at hR
        have HR2 := Aside0.mk hR
        have d0 : decide ((o'.length : Int) < (n : Int)) = false := decide_eq_false (by omega)
        have d0b : decide (o'.length < n) = false := decide_eq_false (by omega)
        clear hR hend
        go_wp2
        go_ret2
        exact .inr ⟨o', p', _, HR2.out.symm, rfl, HO.out, HX.out.reader HI.out HB.out HKB.out, HKB.out, by rw [HMM.out]; exact HP.out.1⟩
      rw [if_neg hend, (kS_of HK.out).1] at hR
      have d0 : decide ((o'.length : Int) < (n : Int)) = true := decide_eq_true (by omega)
      have d0b : decide (o'.length < n) = true := decide_eq_true (by omega)
      have hX1 := HX.out.reader HI.out HB.out HKB.out
      have hrd := read_all base gt gr l1 k1 p' Z S w0 wr (HT.out.keepX HX.out (KeepX.of_but HKB.out)) HI.out HB.out (by rw [HMM.out]; exact HP.out.1) HZ.out.1 HK.out.okl.1 HZ.out.2
      have hsy := readA_sym HK.out Z M p'
      have hle := readA_le l1 k1 Z M p' HP.out.1
      rw [HMM.out] at hrd
      obtain ⟨A, hA⟩ : ∃ A, readA l1 k1 Z M p' = A := ⟨_, rfl⟩
      rw [hA] at hrd hsy hle hR
      obtain ⟨s, er, p2, bad⟩ := A
      dsimp only at hR
      have HRD := Aside0.mk hrd
      have HX1 := Aside0.mk hX1
      have hc0 := blk_cell hX1.1 0
      by_cases h1 : er ≠ 0
      · rw [if_pos h1] at hR
        have HR2 := Aside0.mk hR
        have H1 := Aside0.mk h1
        have e0 : (er == 0) = false := beq_eq_false_iff_ne.mpr h1
        have e1 : (er != 0) = true := bne_iff_ne.mpr h1
        clear hX1 hrd hle hsy h1 hR hA HR hend
        go_wp2_with fail
        refine HRD.out.mono ?_
        rintro e w1 ⟨rfl, hI, hB, hk1⟩
        have HB1 := Aside0.mk hB
        clear hI hB hk1 HRD hc0
        go_wp2
        go_ret2
        exact .inl ⟨er, HR2.out.symm, rfl, HB1.out, H1.out⟩
      rw [if_neg h1] at hR
      obtain rfl : er = 0 := by omega
      obtain ⟨j, hj, _⟩ := hsy rfl
      obtain rfl : s = (j : Int) := hj
      obtain ⟨hb0, hp2⟩ := hle.2 rfl
      obtain rfl : bad = false := hb0
      have HP2 := Aside0.mk (show p2 ≤ M ∧ p' < p2 from ⟨hle.1, hp2⟩)
      clear hle hsy h1 hA hrd HR hp2 hX1
      have hlen := HP.out.2.2
      go_wp2_with fail
      refine HRD.out.mono ?_
      rintro e w1 ⟨rfl, hI, hB, hk1⟩
      have HI1 := Aside0.mk hI
      have HB1 := Aside0.mk hB
      have HK1 := Aside0.mk (HKB.out.trans hk1 (.inl rfl))
      have HO1 := Aside0.mk (Kd.R_mono (Kd.R_keep (Kd.R_far1 HO.out rfl (Kd.R_ne HO.out HI.out.1 (by decide))) hk1 (fun k hk => hk.2)) (fun _ _ => trivial))
      clear hI hB hk1 HRD hc0 HI HB HKB HO HX1
      by_cases h2 : (j : Int) < 16
      · rw [if_pos h2] at hR
        have HR2 := Aside0.mk hR
        have d2 : decide ((j : Int) < 16) = true := decide_eq_true h2
        clear hR
        go_wp2_with (first | ((with_reducible refine gate_builtin (b := .append) (xs := #[.tmp 33, .tmp 35]) rfl ?_); at_builtin; refine Kd.R_append (Kd.int .i64) (w0 := w1) w.heap.size rfl (.tmp 33) (.tmp 35) 22 3 (.int .i64 0) 8 rfl Try.underlying22 info3 rfl (by decide) (by omega) (.slice A5 o'.length c5) o' (j : Int) [.int .i64 (j : Int)] (fun _ => True) (fun _ => False) rfl rfl rfl (fun _ h => h.elim) (fun _ _ => trivial) HO1.out (Below.refl _ _) HK1.out.1 (by omega) ?_; intro v9 w9 ho hb hg hat; have HI9 := Aside0.mk (HI1.out.grown hg (Kd.R_ne HO1.out HI1.out.1 (by decide))); have HB9 := Aside0.mk (below_base HB1.out hb HW.out); have HK9 := Aside0.mk (keep_base HK1.out hb); have HO9 := Aside0.mk ho; clear ho hb hg hat))
        go_roundg f
        case measure => exact Nat.lt_succ_self _
        case rel => exact ⟨p2, o' ++ [(j : Int)], HI9, HB9, HK9, HO9, HR2, ⟨HP2.out.1, by have := HP.out; simp; omega, by simp; omega⟩⟩
      rw [if_neg h2] at hR
      have d2 : decide ((j : Int) < 16) = false := decide_eq_false h2
      by_cases h3 : (j : Int) = 16 ∧ o'.length = 0
      · rw [if_pos h3] at hR
        have HR2 := Aside0.mk hR
        have e3 : ((j : Int) == 16) = true := beq_iff_eq.mpr h3.1
        have e4 : ((o'.length : Int) == 0) = true := beq_iff_eq.mpr (by omega)
        have e4b : (o'.length == 0) = true := beq_iff_eq.mpr (by omega)
        clear hR h3
        go_wp2
        go_ret2
        exact .inl ⟨2, HR2.out.symm, rfl, HB1.out, by decide⟩
      rw [if_neg h3] at hR
      have HX2 := Aside0.mk (HX.out.reader HI1.out HB1.out HK1.out)
      by_cases h4 : M < p2 + againB (j : Int)
      · rw [if_pos h4] at hR
        have HR2 := Aside0.mk hR
        have HAB := Aside0.mk (again_bad g gr S p2 (j : Int) vo vk out ks most w0 w1 HX2.out HZ.out.1 (by rw [HMM.out]; exact HP2.out.1) (by rw [HMM.out]; exact h4))
        clear hR h4
        by_cases h5 : (j : Int) = 16
        · have e3 : ((j : Int) == 16) = true := beq_iff_eq.mpr h5
          have e4 : ((o'.length : Int) == 0) = false := beq_eq_false_iff_ne.mpr (by omega)
          have e4b : (o'.length == 0) = false := beq_eq_false_iff_ne.mpr (by omega)
          clear h5 h3
          go_wp2_with fail
          refine HAB.out.mono ?_
          rintro e w2 ⟨x, rfl, hb⟩
          have HB2 := Aside0.mk hb
          clear hb HAB
          go_wp2
          go_ret2
          exact .inl ⟨3, HR2.out.symm, rfl, HB2.out, by decide⟩
        · have e3 : ((j : Int) == 16) = false := beq_eq_false_iff_ne.mpr h5
          clear h5 h3
          go_wp2_with fail
          refine HAB.out.mono ?_
          rintro e w2 ⟨x, rfl, hb⟩
          have HB2 := Aside0.mk hb
          clear hb HAB
          go_wp2
          go_ret2
          exact .inl ⟨3, HR2.out.symm, rfl, HB2.out, by decide⟩
      rw [if_neg h4] at hR
      have HAO := Aside0.mk (again_ok g gr S Z p2 (j : Int) vo vk out ks most w0 w1 HX2.out HZ.out (by rw [HMM.out]; omega))
      obtain ⟨kk, hkk⟩ : ∃ kk, Z / 2 ^ p2 % 2 ^ againB (j : Int) + againC (j : Int) = kk := ⟨_, rfl⟩
      rw [hkk] at HAO hR
      have hk138 : kk ≤ 138 := by
        have h6 : againC (j : Int) ≤ 11 := by unfold againC; split <;> omega
        have h7 : Z / 2 ^ p2 % 2 ^ againB (j : Int) < 2 ^ 7 := Nat.lt_of_lt_of_le (Nat.mod_lt _ (Nat.two_pow_pos _)) (Nat.pow_le_pow_right (by decide) (againB_le _))
        omega
      have hk3 : 3 ≤ kk := by
        have h6 : 3 ≤ againC (j : Int) := by unfold againC; split <;> omega
        omega
      obtain ⟨q, hq⟩ : ∃ q, p2 + againB (j : Int) = q := ⟨_, rfl⟩
      rw [hq] at HAO hR h4
      have hqM : q ≤ M := by omega
      have hpq : p2 ≤ q := by omega
      clear hkk hq h4
      by_cases h6 : n < o'.length + kk
      · rw [if_pos h6] at hR
        have HR2 := Aside0.mk hR
        have d6 : decide ((n : Int) < (o'.length : Int) + (kk : Int)) = true := decide_eq_true (by omega)
        have d6b : decide (n < o'.length + kk) = true := decide_eq_true h6
        clear hR h6
        by_cases h5 : (j : Int) = 16
        · have e3 : ((j : Int) == 16) = true := beq_iff_eq.mpr h5
          have e4 : ((o'.length : Int) == 0) = false := beq_eq_false_iff_ne.mpr (by omega)
          have e4b : (o'.length == 0) = false := beq_eq_false_iff_ne.mpr (by omega)
          clear h5 h3
          go_wp2_with fail
          refine HAO.out.mono ?_
          rintro e w2 ⟨rfl, hX2, hk2⟩
          have HX3 := Aside0.mk hX2
          clear hX2 hk2 HAO
          go_wp2
          go_ret2
          exact .inl ⟨2, HR2.out.symm, rfl, HX3.out.2.2.2.2.2, by decide⟩
        · have e3 : ((j : Int) == 16) = false := beq_eq_false_iff_ne.mpr h5
          clear h5 h3
          go_wp2_with fail
          refine HAO.out.mono ?_
          rintro e w2 ⟨rfl, hX2, hk2⟩
          have HX3 := Aside0.mk hX2
          clear hX2 hk2 HAO
          go_wp2
          go_ret2
          exact .inl ⟨2, HR2.out.symm, rfl, HX3.out.2.2.2.2.2, by decide⟩
      rw [if_neg h6] at hR
      have hle6 : o'.length + kk ≤ n := by omega
      have d6 : decide ((n : Int) < (o'.length : Int) + (kk : Int)) = false := decide_eq_false (by omega)
      have d6b : decide (n < o'.length + kk) = false := decide_eq_false h6
      by_cases h5 : (j : Int) = 16
      · rw [if_pos h5] at hR
        have e3 : ((j : Int) == 16) = true := beq_iff_eq.mpr h5
        have e4 : ((o'.length : Int) == 0) = false := beq_eq_false_iff_ne.mpr (by omega)
        have e4b : (o'.length == 0) = false := beq_eq_false_iff_ne.mpr (by omega)
        obtain ⟨x, hx⟩ : ∃ x, rd o' ((o'.length : Int) - 1) = x := ⟨_, rfl⟩
        rw [hx] at hR
        have HR2 := Aside0.mk hR
        have HXV := Aside0.mk hx
        have ho1 : 1 ≤ o'.length := by omega
        clear hR h5 h3 hx h6
        go_wp2_with fail
        refine HAO.out.mono ?_
        rintro e w2 ⟨rfl, hX2, hk2⟩
        have HI2 := Aside0.mk hX2.2.2.1
        have HB2 := Aside0.mk hX2.2.2.2.2.2
        have HK2 := Aside0.mk (HK1.out.trans hk2 (.inl rfl))
        have HO2 := Aside0.mk (Kd.R_mono (Kd.R_keep (Kd.R_far1 HO1.out rfl (Kd.R_ne HO1.out HI1.out.1 (by decide))) hk2 (fun k hk => hk.2)) (fun _ _ => trivial))
        clear hX2 hk2 HAO HI1 HB1 HK1 HO1 HX2
        obtain ⟨ga, ca, ea, _, _, _, _⟩ := Kd.R_form HO2.out (by omega)
        cases ea
        obtain ⟨mm, hmm⟩ : ∃ mm : Nat, (o'.length : Int) - 1 = mm := ⟨o'.length - 1, by omega⟩
        obtain ⟨hxs, hxf⟩ := Kd.R_celln 0 HO2.out (mm : Int) (by omega) (by omega)
        rw [Int.toNat_natCast] at hxs
        replace hxs : w2.cell? ⟨ga, mm, none⟩ = some (.int .i64 x) := hxs.trans (by rw [← HXV.out, hmm]; rfl)
        have m0 : 0 ≤ (mm : Int) := by omega
        have m1 : (mm : Int) < (o'.length : Int) := by omega
        go_wp2
        go_loopw [8, 71] (fun v8 v71 wr => ∃ i : Nat, v71 = .int .i64 (i : Int) ∧ i ≤ kk ∧ Aside0 (IsS155 w0 wr gr S (q : Int) false) ∧ Aside0 (Below w0.heap.size w0 wr) ∧ Aside0 (KeepBut w wr gr none) ∧ Aside0 (Kd.R (Kd.int .i64) 3 wr w.heap.size (fun _ => True) v8 (o' ++ List.replicate i x))) (fun _ v71 _ => kk + 1 - (intOf v71).toNat)
        case atStart => exact ⟨0, rfl, by omega, HI2, HB2, HK2, ⟨by rw [List.replicate_zero, List.append_nil]; exact HO2.out⟩⟩
        case round =>
          clear HI2 HB2 HK2 HO2
          obtain ⟨i, rfl, hi, HI2, HB2, HK2, HO2⟩ := hrel
          obtain ⟨A9, c9, rfl⟩ := Kd.R_slice HO2.out
          have hlr : (o' ++ List.replicate i x).length = o'.length + i := by simp
          obtain ⟨o3, ho3⟩ : ∃ o3, o' ++ List.replicate i x = o3 := ⟨_, rfl⟩
          rw [ho3] at HO2 hlr ⊢
          have HO3 := Aside0.mk ho3
          have hl1 : o3.length ≤ o'.length + i := by omega
          have hl2 : o'.length + i ≤ o3.length := by omega
          clear ho3 hlr
          by_cases hlt : i < kk
          · have di : decide ((i : Int) < (kk : Int)) = true := decide_eq_true (by omega)
            have dib : decide (i < kk) = true := decide_eq_true hlt
            go_wp2_with (first | ((with_reducible refine gate_builtin (b := .append) (xs := #[.tmp 73, .tmp 75]) rfl ?_); at_builtin; refine Kd.R_append (Kd.int .i64) (w0 := wr) w.heap.size rfl (.tmp 73) (.tmp 75) 22 3 (.int .i64 0) 8 rfl Try.underlying22 info3 rfl (by decide) (by omega) (.slice A9 o3.length c9) o3 x [.int .i64 x] (fun _ => True) (fun _ => False) rfl rfl rfl (fun _ h => h.elim) (fun _ _ => trivial) HO2.out (Below.refl _ _) HK2.out.1 (by omega) ?_; intro v9 w9 ho hb hg hat; have HI9 := Aside0.mk (HI2.out.grown hg (Kd.R_ne HO2.out HI2.out.1 (by decide))); have HB9 := Aside0.mk (below_base HB2.out hb HW.out); have HK9 := Aside0.mk (keep_base HK2.out hb); have HO9 := Aside0.mk ho; clear ho hb hg hat))
            go_roundw
            case rel => exact ⟨i + 1, by go_num, by omega, HI9, HB9, HK9, ⟨by rw [List.replicate_succ', ← List.append_assoc, HO3.out]; exact HO9.out⟩⟩
            case measure => simp [intOf]; omega
          · have di : decide ((i : Int) < (kk : Int)) = false := decide_eq_false (by omega)
            have dib : decide (i < kk) = false := decide_eq_false hlt
            have hik : i = kk := by omega
            have HR3 := Aside0.mk (show rowS l1 Z M n f o3 q = R by rw [← HO3.out, hik]; exact HR2.out)
            clear hik
            go_wp2
            go_roundg f
            case measure => exact Nat.lt_succ_self _
            case rel => exact ⟨q, o3, HI2, HB2, HK2, HO2, HR3, ⟨hqM, by have := HP.out; omega, by omega⟩⟩
      · rw [if_neg h5] at hR
        have HR2 := Aside0.mk hR
        have e3 : ((j : Int) == 16) = false := beq_eq_false_iff_ne.mpr h5
        clear hR h5 h3 h6
        go_wp2_with fail
        refine HAO.out.mono ?_
        rintro e w2 ⟨rfl, hX2, hk2⟩
        have HI2 := Aside0.mk hX2.2.2.1
        have HB2 := Aside0.mk hX2.2.2.2.2.2
        have HK2 := Aside0.mk (HK1.out.trans hk2 (.inl rfl))
        have HO2 := Aside0.mk (Kd.R_mono (Kd.R_keep (Kd.R_far1 HO1.out rfl (Kd.R_ne HO1.out HI1.out.1 (by decide))) hk2 (fun k hk => hk.2)) (fun _ _ => trivial))
        clear hX2 hk2 HAO HI1 HB1 HK1 HO1 HX2
        go_wp2
        go_loopw [8, 71] (fun v8 v71 wr => ∃ i : Nat, v71 = .int .i64 (i : Int) ∧ i ≤ kk ∧ Aside0 (IsS155 w0 wr gr S (q : Int) false) ∧ Aside0 (Below w0.heap.size w0 wr) ∧ Aside0 (KeepBut w wr gr none) ∧ Aside0 (Kd.R (Kd.int .i64) 3 wr w.heap.size (fun _ => True) v8 (o' ++ List.replicate i 0))) (fun _ v71 _ => kk + 1 - (intOf v71).toNat)
        case atStart => exact ⟨0, rfl, by omega, HI2, HB2, HK2, ⟨by rw [List.replicate_zero, List.append_nil]; exact HO2.out⟩⟩
        case round =>
          clear HI2 HB2 HK2 HO2
          obtain ⟨i, rfl, hi, HI2, HB2, HK2, HO2⟩ := hrel
          obtain ⟨A9, c9, rfl⟩ := Kd.R_slice HO2.out
          have hlr : (o' ++ List.replicate i 0).length = o'.length + i := by simp
          obtain ⟨o3, ho3⟩ : ∃ o3, o' ++ List.replicate i 0 = o3 := ⟨_, rfl⟩
          rw [ho3] at HO2 hlr ⊢
          have HO3 := Aside0.mk ho3
          have hl1 : o3.length ≤ o'.length + i := by omega
          have hl2 : o'.length + i ≤ o3.length := by omega
          clear ho3 hlr
          by_cases hlt : i < kk
          · have di : decide ((i : Int) < (kk : Int)) = true := decide_eq_true (by omega)
            have dib : decide (i < kk) = true := decide_eq_true hlt
            go_wp2_with (first | ((with_reducible refine gate_builtin (b := .append) (xs := #[.tmp 73, .tmp 75]) rfl ?_); at_builtin; refine Kd.R_append (Kd.int .i64) (w0 := wr) w.heap.size rfl (.tmp 73) (.tmp 75) 22 3 (.int .i64 0) 8 rfl Try.underlying22 info3 rfl (by decide) (by omega) (.slice A9 o3.length c9) o3 0 [.int .i64 0] (fun _ => True) (fun _ => False) rfl rfl rfl (fun _ h => h.elim) (fun _ _ => trivial) HO2.out (Below.refl _ _) HK2.out.1 (by omega) ?_; intro v9 w9 ho hb hg hat; have HI9 := Aside0.mk (HI2.out.grown hg (Kd.R_ne HO2.out HI2.out.1 (by decide))); have HB9 := Aside0.mk (below_base HB2.out hb HW.out); have HK9 := Aside0.mk (keep_base HK2.out hb); have HO9 := Aside0.mk ho; clear ho hb hg hat))
            go_roundw
            case rel => exact ⟨i + 1, by go_num, by omega, HI9, HB9, HK9, ⟨by rw [List.replicate_succ', ← List.append_assoc, HO3.out]; exact HO9.out⟩⟩
            case measure => simp [intOf]; omega
          · have di : decide ((i : Int) < (kk : Int)) = false := decide_eq_false (by omega)
            have dib : decide (i < kk) = false := decide_eq_false hlt
            have hik : i = kk := by omega
            have HR3 := Aside0.mk (show rowS l1 Z M n f o3 q = R by rw [← HO3.out, hik]; exact HR2.out)
            clear hik
            go_wp2
            go_roundg f
            case measure => exact Nat.lt_succ_self _
            case rel => exact ⟨q, o3, HI2, HB2, HK2, HO2, HR3, ⟨hqM, by have := HP.out; omega, by omega⟩⟩



open XInflateAny XTok
theorem C_of_block {W : World} {g t : Nat} {L : List Int} (h : W.heap[g]? = some (.cells (encs (Value.int .i64) L).toArray t (0, 0))) (hl : L.length ≤ 1000000) : Kd.C (Kd.int .i64) W (some ⟨g, 0, none⟩) L.length L := by
  refine Kd.C_of_reads (enc := Value.int .i64) (d := 0) (h1 := fun _ => rfl) ⟨rfl, by omega, fun _ => ⟨⟨g, 0, none⟩, rfl, fun j hj => ?_⟩⟩
  have e := blk_cell h j
  rw [List.getElem?_toArray, encs, List.getElem?_map, List.getElem?_eq_getElem hj] at e
  rw [List.getD_eq_getElem?_getD, List.getElem?_eq_getElem hj]
  by_cases h0 : j = 0
  · subst h0; exact e
  · have ea : (⟨g, 0, none⟩ : Addr).add j = ⟨g, j, none⟩ := by
      unfold Addr.add
      simp
      try omega
    rw [ea]; exact e
theorem encs_set (L : List Int) (s : Nat) (v : Int) : (encs (Value.int .i64) L).toArray.setIfInBounds s (.int .i64 v) = (encs (Value.int .i64) (L.set s v)).toArray := by
  simp [encs, List.map_set]
theorem i64_ne {n : Nat} (hn : n ≠ 3) : ∀ q, q ∈ 3 :: (Kd.int .i64).E → q ≠ n := fun q hq => by
  have : q = 3 := by simpa [Kd.int, Kd.scalar] using hq
  omega
theorem firstL_len (Z p : Nat) : ∀ i, (firstL Z p i).length = 19
  | 0 => by simp [firstL]
  | i + 1 => by rw [firstL, List.length_set, firstL_len Z p i]
theorem ordL_lt : ∀ i : Fin 19, 0 ≤ rd ordL (i.val : Int) ∧ rd ordL (i.val : Int) < 19 := by decide +kernel
def FPost (w0 w : World) (g gr : Nat) (S : ByteArray) (Z p c : Nat) (vo : Value) (out : List Int) (most : Int) (vk : Value) (ks : List Int) (e : Ending) (w' : World) : Prop :=
  (∃ er, ((8 * S.size < p + 3 * c ∧ er = 3) ∨ (¬ 8 * S.size < p + 3 * c ∧ (eS (firstL Z p c) ≠ 0 ∨ kS (firstL Z p c) = 2) ∧ er = 10)) ∧ e = .returned (.tuple #[.pointer none, .int .i64 er]) ∧ Below w0.heap.size w0 w') ∨
  (∃ gt base, ¬ 8 * S.size < p + 3 * c ∧ ¬ (eS (firstL Z p c) ≠ 0 ∨ kS (firstL Z p c) = 2) ∧ e = .returned (.tuple #[.pointer (some ⟨gt, 0, none⟩), .int .i64 0]) ∧ IsT base w' gt (firstL Z p c) (kS (firstL Z p c)) ∧ IsX w0 w' g gr S (p + 3 * c) false vo out most vk ks ∧ KeepBut w w' gr none)
set_option maxHeartbeats 4000000 in
set_option maxRecDepth 100000 in
theorem first_calls (g gr : Nat) (S : ByteArray) (Z p c : Nat) (vo vk : Value) (out ks : List Int) (most : Int) (w0 w : World) (hX : IsX w0 w g gr S p false vo out most vk ks) (hZ : IsZ S Z) (hp : p ≤ 8 * S.size) (hc : c ≤ 19) :
    Calls Try.prog 142 #[.pointer (some ⟨g, 0, none⟩), .int .i64 c] w fun e w' => FPost w0 w g gr S Z p c vo out most vk ks e w' := by
  have HX := Aside0.mk hX
  have HZ := Aside0.mk hZ
  have HW := Aside0.mk hX.base_le
  clear hX hZ
  go_enter Try.func142, Try.ntmps142
  go_wp2_with (first | ((with_reducible refine gate_dst (N := 6) rfl ?_); refine box_event rfl (N := 6) rfl (cs := (encs (Value.int .i64) (firstL Z p 0)).toArray) (t := 176) (by kernel_rfl) ?_; intro gl hg w1 hblk hb; have GL := Aside0.mk (Nat.le_of_eq hg.symm); have BK1 := Aside0.mk hblk; have HX1 := Aside0.mk (HX.out.below hb); have HK1 := Aside0.mk (KeepBut.of_below hb gr none); clear hg hblk hb))
  refine (inflate_order.calls ordL _ rfl).mono ?_
  rintro e w2 ⟨v2, rfl, hR, hb⟩
  obtain ⟨A2, c2, rfl⟩ := Kd.R_slice hR
  obtain ⟨hc2, hcap, hR2⟩ := Kd.R_reads' hR
  have BK2 := Aside0.mk (blk_below BK1.out hb)
  have HX2 := Aside0.mk (HX1.out.below hb)
  have HK2 := Aside0.mk (HK1.out.trans (KeepBut.of_below hb gr none) (.inl rfl))
  have HO2 := Aside0.mk (Kd.R_lower (base' := w.heap.size) hR (by have := GL.out; have := HK1.out.1; omega))
  have l19 : ordL.length = 19 := rfl
  clear hR hc2 hR2 hb BK1 HX1 HK1
  rw [l19] at hcap
  have cc0 : 0 ≤ (c : Int) := by omega
  have cc1 : (c : Int) ≤ 19 := by omega
  have cc2 : (c : Int) ≤ (c2 : Int) := by omega
  have hsz := HZ.out.1
  go_wp2
  go_loopw [17] (fun v17 wr => ∃ i : Nat, v17 = .int .i64 (i : Int) ∧ i ≤ c ∧ p + 3 * i ≤ 8 * S.size ∧ Aside0 (IsS155 w0 wr gr S ((p + 3 * i : Nat) : Int) false) ∧ Aside0 (Below w0.heap.size w0 wr) ∧ Aside0 (KeepBut w wr gr none) ∧ Aside0 (wr.heap[gl]? = some (.cells (encs (Value.int .i64) (firstL Z p i)).toArray 176 (0, 0))) ∧ Aside0 (Kd.R (Kd.int .i64) 3 wr w.heap.size (fun _ => True) (.slice A2 19 c2) ordL)) (fun v17 _ => c + 1 - (intOf v17).toNat)
  case atStart => exact ⟨0, rfl, by omega, by omega, ⟨HX2.out.2.2.1⟩, ⟨HX2.out.2.2.2.2.2⟩, HK2, BK2, HO2⟩
  case round =>
    clear BK2 HX2 HK2 HO2
    obtain ⟨i, rfl, hi, hpi, HI, HB, HK, BK, HO⟩ := hrel
    have HX1 := Aside0.mk (HX.out.reader HI.out HB.out HK.out)
    by_cases hlt : i < c
    · have di : decide ((i : Int) < (c : Int)) = true := decide_eq_true (by omega)
      have dib : decide (i < c) = true := decide_eq_true hlt
      have p1 : 0 ≤ (i : Int) := by omega
      have q1 : (i : Int) < (c : Int) := by omega
      obtain ⟨ad, ea, hx⟩ := Kd.at_int (Kd.R_reads' HO.out).2.2 (i : Int) p1 (by rw [l19]; omega)
      have hol := ordL_lt ⟨i, by omega⟩
      change 0 ≤ rd ordL (i : Int) ∧ rd ordL (i : Int) < 19 at hol
      obtain ⟨s, hs⟩ : ∃ s : Nat, rd ordL (i : Int) = s := ⟨(rd ordL (i : Int)).toNat, by omega⟩
      cases ea
      rw [hs, Int.toNat_natCast] at hx
      rw [hs] at hol
      have HS := Aside0.mk hs
      clear hs
      by_cases hbad : 8 * S.size < p + 3 * i + 3
      · have HN := Aside0.mk (fun W hX => number_bad g gr S (p + 3 * i) 3 false vo vk out ks most w0 W hX hsz hpi (.inr hbad))
        have HBAD := Aside0.mk (show 8 * S.size < p + 3 * c by omega)
        clear hbad
        go_wp2_with fail
        refine (HN.out _ HX1.out).mono ?_
        rintro e w3 ⟨rfl, hX3, hk3⟩
        have HB3 := Aside0.mk hX3.2.2.2.2.2
        clear hX3 hk3 HN
        go_wp2
        go_ret2
        exact .inl ⟨3, .inl ⟨HBAD.out, rfl⟩, rfl, HB3.out⟩
      · have hnum := fun W hX => number_ok g gr S Z (p + 3 * i) 3 vo vk out ks most w0 W hX HZ.out (by omega) (by omega)
        obtain ⟨v, hv⟩ : ∃ v, Z / 2 ^ (p + 3 * i) % 2 ^ 3 = v := ⟨_, rfl⟩
        rw [hv] at hnum
        have HN := Aside0.mk hnum
        have HV := Aside0.mk hv
        clear hnum hv
        go_wp2_with fail
        refine (HN.out _ HX1.out).mono ?_
        rintro e w3 ⟨rfl, hX3, hk3⟩
        have HI3 := Aside0.mk hX3.2.2.1
        have HB3 := Aside0.mk hX3.2.2.2.2.2
        have HK3 := Aside0.mk (HK.out.trans hk3 (.inl rfl))
        have BK3 := Aside0.mk (hk3.blk BK.out (blk_ne BK.out HI.out.1 (by decide)) (by simp))
        have HO3 := Aside0.mk (Kd.R_mono (Kd.R_keep (Kd.R_far1 HO.out rfl (Kd.R_ne HO.out HI.out.1 (by decide))) hk3 (fun k hk => hk.2)) (fun _ _ => trivial))
        clear hX3 hk3 HN HI HB HK BK HO HX1
        have s0 : 0 ≤ (s : Int) := hol.1
        have s1 : (s : Int) < 19 := hol.2
        have hcl := blk_cell BK3.out s
        have hcf := blk_frozen BK3.out s
        have hlt19 : s < (encs (Value.int .i64) (firstL Z p i)).toArray.size := by simp [encs, firstL_len]; omega
        obtain ⟨u, hu⟩ : ∃ u, (encs (Value.int .i64) (firstL Z p i)).toArray[s]? = some u := ⟨_, Array.getElem?_eq_getElem hlt19⟩
        rw [hu] at hcl
        clear hu hlt19
        have hgr := blk_ne BK3.out HI3.out.1 (by decide)
        have HGR := Aside0.mk (show gr ≠ gl from fun e => hgr e.symm)
        have HNX := Aside0.mk (show (firstL Z p i).set s ((v : Nat) : Int) = firstL Z p (i + 1) by rw [firstL, HS.out, HV.out, Int.toNat_natCast])
        clear hgr
        go_wp2_with fail
        go_roundw
        case rel => exact ⟨i + 1, by go_num, by omega, by omega, ⟨by rw [show p + 3 * (i + 1) = p + 3 * i + 3 from by omega]; exact HI3.out.far HGR.out _⟩, ⟨below_set HB3.out (by have := GL.out; have := HW.out; omega)⟩, ⟨keep_base HK3.out ((Below.refl w.heap.size w3).setCell (p := ⟨gl, s, none⟩) GL.out _)⟩, ⟨blk_put BK3.out s _ (by rw [encs_set, HNX.out])⟩, ⟨Kd.R_set HO3.out BK3.out (i64_ne (by decide)) s _⟩⟩
        case measure => simp [intOf]; omega
    · have di : decide ((i : Int) < (c : Int)) = false := decide_eq_false (by omega)
      have dib : decide (i < c) = false := decide_eq_false hlt
      obtain rfl : i = c := by omega
      have hC := C_of_block BK.out (by rw [firstL_len]; omega)
      have hspec := kS_spec (firstL Z p i)
      obtain ⟨L, hL⟩ : ∃ L, firstL Z p i = L := ⟨_, rfl⟩
      have hL19 : L.length = 19 := by rw [← hL]; exact firstL_len _ _ _
      have HL := Aside0.mk hL
      have HE := Aside0.mk (show eS (firstL Z p i) = eS L ∧ kS (firstL Z p i) = kS L by rw [hL]; exact ⟨rfl, rfl⟩)
      rw [hL] at hC hspec
      rw [hL19] at hC
      obtain ⟨k, hk⟩ : ∃ k, kS L = k := ⟨_, rfl⟩
      obtain ⟨er, her⟩ : ∃ er, eS L = er := ⟨_, rfl⟩
      rw [hk, her] at hspec
      rw [hk, her] at HE
      have hC' : Kd.C (Kd.int .i64) wr (some ⟨gl, 0, none⟩) L.length L := by rw [hL19]; exact hC
      have HCC := Aside0.mk hC'
      have HSP := Aside0.mk hspec
      have HCHK := Aside0.mk (check_calls (some ⟨gl, 0, none⟩) 19 L wr hC')
      have HNEW := Aside0.mk (fun W (h : Kd.C (Kd.int .i64) W (some ⟨gl, 0, none⟩) L.length L) => new_calls (some ⟨gl, 0, none⟩) 19 L W h)
      rw [hL19] at HCHK
      have HNEW2 := Aside0.mk (show ∀ W, Kd.C (Kd.int .i64) W (some ⟨gl, 0, none⟩) L.length L → Calls Try.prog 104 #[.slice (some ⟨gl, 0, none⟩) 19 19] W fun e w' => NewPost L W e w' from fun W h => by have := HNEW.out W h; rw [hL19] at this; exact this)
      clear hC hC' hspec hL hk her hL19 HNEW BK HO
      go_wp2_with fail
      refine HCHK.out.mono ?_
      rintro e w4 ⟨k4, er4, rfl, hK4, hb⟩
      obtain ⟨rfl, rfl⟩ := HSP.out.same hK4
      have HC4 := Aside0.mk (Kd.C_below HCC.out hb)
      have HX4 := Aside0.mk (HX1.out.below hb)
      have HK5 := Aside0.mk (HK.out.trans (KeepBut.of_below hb gr none) (.inl rfl))
      clear hb hK4 HCC HX1 HK HCHK HI HB
      by_cases he : er = 0
      · subst he
        by_cases hk2 : k = 2
        · subst hk2
          go_wp2
          go_ret2
          exact .inl ⟨10, .inr ⟨by omega, .inr HE.out.2, rfl⟩, rfl, HX4.out.2.2.2.2.2⟩
        · have q0 : (k == 2) = false := beq_eq_false_iff_ne.mpr hk2
          have H2 := Aside0.mk hk2
          clear hk2
          go_wp2_with fail
          refine (HNEW2.out _ HC4.out).mono ?_
          rintro e w5 ⟨k5, er5, hK5, hb, hres⟩
          obtain ⟨rfl, rfl⟩ := HSP.out.same hK5
          rcases hres with ⟨h, _⟩ | ⟨_, gt, rfl, hT⟩
          · exact absurd rfl h
          have HT5 := Aside0.mk hT
          have HX5 := Aside0.mk (HX4.out.below hb)
          have HK6 := Aside0.mk (HK5.out.trans (KeepBut.of_below hb gr none) (.inl rfl))
          clear hb hK5 hT
          go_wp2
          go_ret2
          exact .inr ⟨gt, _, by omega, fun h => h.elim (fun h => h HE.out.1) (fun h => H2.out (HE.out.2.symm.trans h)), rfl, by rw [HL.out, show kS L = k from by rw [← HL.out]; exact HE.out.2]; exact HT5.out, HX5.out, HK6.out⟩
      · have q0 : (er == 0) = false := beq_eq_false_iff_ne.mpr he
        have q1 : (er != 0) = true := bne_iff_ne.mpr he
        have H2 := Aside0.mk he
        clear he
        go_wp2
        go_ret2
        exact .inl ⟨10, .inr ⟨by omega, .inl (by rw [HE.out.1]; exact H2.out), rfl⟩, rfl, HX4.out.2.2.2.2.2⟩



open XInflateAny XTok
def OwnPost (w0 w : World) (g gr : Nat) (S : ByteArray) (vo : Value) (out : List Int) (most : Int) (vk : Value) (ks : List Int) (R : Except Int (List Int × List Int × Nat)) (e : Ending) (w' : World) : Prop :=
  (∃ er, R = .error er ∧ e = .returned (.tuple #[.pointer none, .pointer none, .int .i64 er]) ∧ Below w0.heap.size w0 w' ∧ er ≠ 0) ∨
  (∃ la lb q ga gb ba bb, R = .ok (la, lb, q) ∧ e = .returned (.tuple #[.pointer (some ⟨ga, 0, none⟩), .pointer (some ⟨gb, 0, none⟩), .int .i64 0]) ∧ IsT ba w' ga la (kS la) ∧ IsT bb w' gb lb (kS lb) ∧ eS la = 0 ∧ eS lb = 0 ∧ IsX w0 w' g gr S q false vo out most vk ks ∧ KeepBut w w' gr none ∧ q ≤ 8 * S.size)
theorem rowS_len2 (l1 : List Int) (Z M n : Nat) : ∀ (f : Nat) (out : List Int) (p : Nat) (l : List Int) (q : Nat), rowS l1 Z M n f out p = .ok (l, q) → n < out.length + f → out.length ≤ n → l.length = n
  | 0, out, p, l, q, h, h1, h2 => absurd h1 (by omega)
  | f + 1, out, p, l, q, h, h1, h2 => by
    rw [rowS] at h
    by_cases c1 : n ≤ out.length
    · rw [if_pos c1] at h
      injection h with h; injection h with h _
      rw [← h]; omega
    rw [if_neg c1] at h
    by_cases c2 : (readA l1 (kS l1) Z M p).2.1 ≠ 0
    · rw [if_pos c2] at h; cases h
    rw [if_neg c2] at h
    by_cases c3 : (readA l1 (kS l1) Z M p).1 < 16
    · rw [if_pos c3] at h
      exact rowS_len2 l1 Z M n f _ _ l q h (by simp; omega) (by simp; omega)
    rw [if_neg c3] at h
    by_cases c4 : (readA l1 (kS l1) Z M p).1 = 16 ∧ out.length = 0
    · rw [if_pos c4] at h; cases h
    rw [if_neg c4] at h
    by_cases c5 : M < (readA l1 (kS l1) Z M p).2.2.1 + againB (readA l1 (kS l1) Z M p).1
    · rw [if_pos c5] at h; cases h
    rw [if_neg c5] at h
    have hk : 3 ≤ againC (readA l1 (kS l1) Z M p).1 := by unfold againC; split <;> omega
    by_cases c6 : n < out.length + (Z / 2 ^ (readA l1 (kS l1) Z M p).2.2.1 % 2 ^ againB (readA l1 (kS l1) Z M p).1 + againC (readA l1 (kS l1) Z M p).1)
    · rw [if_pos c6] at h; cases h
    rw [if_neg c6] at h
    exact rowS_len2 l1 Z M n f _ _ l q h (by rw [List.length_append, List.length_replicate]; omega) (by rw [List.length_append, List.length_replicate]; omega)
theorem rowS_len {l1 : List Int} {k1 : Int} (hK : KRes l1 k1 0) {Z M n p : Nat} {R : Except Int (List Int × Nat)} (h : rowS l1 Z M n (n + 1) [] p = R) (hp : p ≤ M) : ∀ l q, R = .ok (l, q) → l.length = n := fun l q h2 =>
  rowS_len2 l1 Z M n (n + 1) [] p l q (h.trans h2) (by simp) (by simp)
set_option maxHeartbeats 4000000 in
set_option maxRecDepth 100000 in
theorem own_calls (g gr : Nat) (S : ByteArray) (Z p : Nat) (vo vk : Value) (out ks : List Int) (most : Int) (w0 w : World) (hX : IsX w0 w g gr S p false vo out most vk ks) (hZ : IsZ S Z) (hp : p ≤ 8 * S.size) :
    Calls Try.prog 122 #[.pointer (some ⟨g, 0, none⟩)] w fun e w' => OwnPost w0 w g gr S vo out most vk ks (ownS Z (8 * S.size) p) e w' := by
  obtain ⟨R, hR⟩ : ∃ R, ownS Z (8 * S.size) p = R := ⟨_, rfl⟩
  rw [hR]
  unfold ownS at hR
  have HX := Aside0.mk hX
  have HZ := Aside0.mk hZ
  have hS := hZ.1
  clear hX hZ
  by_cases h1 : 8 * S.size < p + 14
  · rw [if_pos h1] at hR
    have HR := Aside0.mk hR
    clear hR
    by_cases h2 : 8 * S.size < p + 5
    · have HN1 := Aside0.mk (fun W hX => number_bad g gr S p 5 false vo vk out ks most w0 W hX hS hp (.inr h2))
      have HN2 := Aside0.mk (fun W hX => number_bad g gr S p 5 true vo vk out ks most w0 W hX hS hp (.inl rfl))
      have HN3 := Aside0.mk (fun W hX => number_bad g gr S p 4 true vo vk out ks most w0 W hX hS hp (.inl rfl))
      clear h1 h2
      go_enter Try.func122, Try.ntmps122
      go_wp2_with fail
      refine (HN1.out _ HX.out).mono ?_
      rintro e w1 ⟨rfl, hX1, hk1⟩
      have HX1 := Aside0.mk hX1
      have HK1 := Aside0.mk hk1
      clear hX1 hk1 HN1
      go_wp2_with fail
      refine (HN2.out _ HX1.out).mono ?_
      rintro e w2 ⟨rfl, hX2, hk2⟩
      have HX2 := Aside0.mk hX2
      have HK2 := Aside0.mk (HK1.out.trans hk2 (.inl rfl))
      clear hX2 hk2 HN2 HX1 HK1
      go_wp2_with fail
      refine (HN3.out _ HX2.out).mono ?_
      rintro e w3 ⟨rfl, hX3, hk3⟩
      have HX3 := Aside0.mk hX3
      have HK3 := Aside0.mk (HK2.out.trans hk3 (.inl rfl))
      clear hX3 hk3 HN3 HX2 HK2
      go_wp2
      go_ret3
      exact .inl ⟨3, HR.out.symm, rfl, HX3.out.2.2.2.2.2, by decide⟩
    by_cases h3 : 8 * S.size < p + 10
    · have HN1 := Aside0.mk (fun W hX => number_ok g gr S Z p 5 vo vk out ks most w0 W hX HZ.out (by omega) (by omega))
      have HN2 := Aside0.mk (fun W hX => number_bad g gr S (p + 5) 5 false vo vk out ks most w0 W hX hS (by omega) (.inr (by omega)))
      have HN3 := Aside0.mk (fun W hX => number_bad g gr S (p + 5) 4 true vo vk out ks most w0 W hX hS (by omega) (.inl rfl))
      obtain ⟨u, hu⟩ : ∃ u, Z / 2 ^ p % 2 ^ 5 = u := ⟨_, rfl⟩
      have hu32 : u < 32 := by rw [← hu]; exact Nat.mod_lt _ (by decide)
      rw [hu] at HN1
      clear h1 h2 h3 hu
      go_enter Try.func122, Try.ntmps122
      go_wp2_with fail
      refine (HN1.out _ HX.out).mono ?_
      rintro e w1 ⟨rfl, hX1, hk1⟩
      have HX1 := Aside0.mk hX1
      have HK1 := Aside0.mk hk1
      clear hX1 hk1 HN1
      go_wp2_with fail
      refine (HN2.out _ HX1.out).mono ?_
      rintro e w2 ⟨rfl, hX2, hk2⟩
      have HX2 := Aside0.mk hX2
      have HK2 := Aside0.mk (HK1.out.trans hk2 (.inl rfl))
      clear hX2 hk2 HN2 HX1 HK1
      go_wp2_with fail
      refine (HN3.out _ HX2.out).mono ?_
      rintro e w3 ⟨rfl, hX3, hk3⟩
      have HX3 := Aside0.mk hX3
      have HK3 := Aside0.mk (HK2.out.trans hk3 (.inl rfl))
      clear hX3 hk3 HN3 HX2 HK2
      go_wp2
      go_ret3
      exact .inl ⟨3, HR.out.symm, rfl, HX3.out.2.2.2.2.2, by decide⟩
    · have HN1 := Aside0.mk (fun W hX => number_ok g gr S Z p 5 vo vk out ks most w0 W hX HZ.out (by omega) (by omega))
      have HN2 := Aside0.mk (fun W hX => number_ok g gr S Z (p + 5) 5 vo vk out ks most w0 W hX HZ.out (by omega) (by omega))
      have HN3 := Aside0.mk (fun W hX => number_bad g gr S (p + 5 + 5) 4 false vo vk out ks most w0 W hX hS (by omega) (.inr (by omega)))
      obtain ⟨u, hu⟩ : ∃ u, Z / 2 ^ p % 2 ^ 5 = u := ⟨_, rfl⟩
      have hu32 : u < 32 := by rw [← hu]; exact Nat.mod_lt _ (by decide)
      obtain ⟨v, hv⟩ : ∃ v, Z / 2 ^ (p + 5) % 2 ^ 5 = v := ⟨_, rfl⟩
      have hv32 : v < 32 := by rw [← hv]; exact Nat.mod_lt _ (by decide)
      rw [hu] at HN1
      rw [hv] at HN2
      clear h1 h2 h3 hu hv
      go_enter Try.func122, Try.ntmps122
      go_wp2_with fail
      refine (HN1.out _ HX.out).mono ?_
      rintro e w1 ⟨rfl, hX1, hk1⟩
      have HX1 := Aside0.mk hX1
      have HK1 := Aside0.mk hk1
      clear hX1 hk1 HN1
      go_wp2_with fail
      refine (HN2.out _ HX1.out).mono ?_
      rintro e w2 ⟨rfl, hX2, hk2⟩
      have HX2 := Aside0.mk hX2
      have HK2 := Aside0.mk (HK1.out.trans hk2 (.inl rfl))
      clear hX2 hk2 HN2 HX1 HK1
      go_wp2_with fail
      refine (HN3.out _ HX2.out).mono ?_
      rintro e w3 ⟨rfl, hX3, hk3⟩
      have HX3 := Aside0.mk hX3
      have HK3 := Aside0.mk (HK2.out.trans hk3 (.inl rfl))
      clear hX3 hk3 HN3 HX2 HK2
      go_wp2
      go_ret3
      exact .inl ⟨3, HR.out.symm, rfl, HX3.out.2.2.2.2.2, by decide⟩
  rw [if_neg h1] at hR
  have HN1 := Aside0.mk (fun W hX => number_ok g gr S Z p 5 vo vk out ks most w0 W hX HZ.out (by omega) (by omega))
  have HN2 := Aside0.mk (fun W hX => number_ok g gr S Z (p + 5) 5 vo vk out ks most w0 W hX HZ.out (by omega) (by omega))
  have HN3 := Aside0.mk (fun W hX => number_ok g gr S Z (p + 5 + 5) 4 vo vk out ks most w0 W hX HZ.out (by omega) (by omega))
  obtain ⟨u, hu⟩ : ∃ u, Z / 2 ^ p % 2 ^ 5 = u := ⟨_, rfl⟩
  have hu32 : u < 32 := by rw [← hu]; exact Nat.mod_lt _ (by decide)
  obtain ⟨v, hv⟩ : ∃ v, Z / 2 ^ (p + 5) % 2 ^ 5 = v := ⟨_, rfl⟩
  have hv32 : v < 32 := by rw [← hv]; exact Nat.mod_lt _ (by decide)
  obtain ⟨x, hx⟩ : ∃ x, Z / 2 ^ (p + 10) % 2 ^ 4 = x := ⟨_, rfl⟩
  have hx16 : x < 16 := by rw [← hx]; exact Nat.mod_lt _ (by decide)
  have hx' : Z / 2 ^ (p + 5 + 5) % 2 ^ 4 = x := hx
  rw [hu] at HN1 hR
  rw [hv] at HN2 hR
  rw [hx] at hR
  rw [hx'] at HN3
  clear hu hv hx hx'
  obtain ⟨a, ha⟩ : ∃ a, u + 257 = a := ⟨_, rfl⟩
  obtain ⟨b, hb⟩ : ∃ b, v + 1 = b := ⟨_, rfl⟩
  obtain ⟨c, hc⟩ : ∃ c, x + 4 = c := ⟨_, rfl⟩
  rw [ha, hb, hc] at hR
  have eu : (u : Int) + 257 = (a : Int) := by omega
  have ev : (v : Int) + 1 = (b : Int) := by omega
  have ex : (x : Int) + 4 = (c : Int) := by omega
  have ha2 : a ≤ 288 := by omega
  have hb2 : b ≤ 32 := by omega
  have hc2 : c ≤ 19 := by omega
  have ha1 : 257 ≤ a := by omega
  have hb1 : 1 ≤ b := by omega
  clear ha hb hc
  unfold ownS2 at hR
  by_cases h2 : 286 < a ∨ 30 < b
  · rw [if_pos h2] at hR
    have HR := Aside0.mk hR
    clear hR
    by_cases h3 : 286 < a
    · have d3 : decide (286 < (a : Int)) = true := decide_eq_true (by omega)
      have d3b : decide (286 < a) = true := decide_eq_true h3
      clear h2 h1
      go_enter Try.func122, Try.ntmps122
      go_wp2_with fail
      refine (HN1.out _ HX.out).mono ?_
      rintro e w1 ⟨rfl, hX1, hk1⟩
      have HX1 := Aside0.mk hX1
      have HK1 := Aside0.mk hk1
      clear hX1 hk1 HN1
      go_wp2_with fail
      refine (HN2.out _ HX1.out).mono ?_
      rintro e w2 ⟨rfl, hX2, hk2⟩
      have HX2 := Aside0.mk hX2
      have HK2 := Aside0.mk (HK1.out.trans hk2 (.inl rfl))
      clear hX2 hk2 HN2 HX1 HK1
      go_wp2_with fail
      refine (HN3.out _ HX2.out).mono ?_
      rintro e w3 ⟨rfl, hX3, hk3⟩
      have HX3 := Aside0.mk hX3
      have HK3 := Aside0.mk (HK2.out.trans hk3 (.inl rfl))
      clear hX3 hk3 HN3 HX2 HK2
      go_wp2
      go_ret3
      exact .inl ⟨2, HR.out.symm, rfl, HX3.out.2.2.2.2.2, by decide⟩
    · have d3 : decide (286 < (a : Int)) = false := decide_eq_false (by omega)
      have d3b : decide (286 < a) = false := decide_eq_false h3
      have d4 : decide (30 < (b : Int)) = true := decide_eq_true (by omega)
      have d4b : decide (30 < b) = true := decide_eq_true (by omega)
      clear h2 h1
      go_enter Try.func122, Try.ntmps122
      go_wp2_with fail
      refine (HN1.out _ HX.out).mono ?_
      rintro e w1 ⟨rfl, hX1, hk1⟩
      have HX1 := Aside0.mk hX1
      have HK1 := Aside0.mk hk1
      clear hX1 hk1 HN1
      go_wp2_with fail
      refine (HN2.out _ HX1.out).mono ?_
      rintro e w2 ⟨rfl, hX2, hk2⟩
      have HX2 := Aside0.mk hX2
      have HK2 := Aside0.mk (HK1.out.trans hk2 (.inl rfl))
      clear hX2 hk2 HN2 HX1 HK1
      go_wp2_with fail
      refine (HN3.out _ HX2.out).mono ?_
      rintro e w3 ⟨rfl, hX3, hk3⟩
      have HX3 := Aside0.mk hX3
      have HK3 := Aside0.mk (HK2.out.trans hk3 (.inl rfl))
      clear hX3 hk3 HN3 HX2 HK2
      go_wp2
      go_ret3
      exact .inl ⟨2, HR.out.symm, rfl, HX3.out.2.2.2.2.2, by decide⟩
  rw [if_neg h2] at hR
  have d3 : decide (286 < (a : Int)) = false := decide_eq_false (by omega)
  have d3b : decide (286 < a) = false := decide_eq_false (by omega)
  have d4 : decide (30 < (b : Int)) = false := decide_eq_false (by omega)
  have d4b : decide (30 < b) = false := decide_eq_false (by omega)
  go_enter Try.func122, Try.ntmps122
  go_wp2_with fail
  refine (HN1.out _ HX.out).mono ?_
  rintro e w1 ⟨rfl, hX1, hk1⟩
  have HX1 := Aside0.mk hX1
  have HK1 := Aside0.mk hk1
  clear hX1 hk1 HN1
  go_wp2_with fail
  refine (HN2.out _ HX1.out).mono ?_
  rintro e w2 ⟨rfl, hX2, hk2⟩
  have HX2 := Aside0.mk hX2
  have HK2 := Aside0.mk (HK1.out.trans hk2 (.inl rfl))
  clear hX2 hk2 HN2 HX1 HK1
  go_wp2_with fail
  refine (HN3.out _ HX2.out).mono ?_
  rintro e w3 ⟨rfl, hX3, hk3⟩
  have HX3 := Aside0.mk hX3
  have HK3 := Aside0.mk (HK2.out.trans hk3 (.inl rfl))
  clear hX3 hk3 HN3 HX2 HK2
  go_wp2_with fail
  refine (first_calls g gr S Z (p + 5 + 5 + 4) c vo vk out ks most w0 w3 HX3.out HZ.out (by omega) hc2).mono ?_
  rintro e w4 h4
  have e14 : p + 5 + 5 + 4 = p + 14 := by omega
  rw [e14] at h4
  rcases h4 with ⟨er, her, rfl, hb4⟩ | ⟨gt, base, n1, n2, rfl, hT4, hX4, hk4⟩
  · have HB4 := Aside0.mk hb4
    have HRE : Aside0 (R = .error er) := ⟨by
      rcases her with ⟨a1, rfl⟩ | ⟨a1, a2, rfl⟩
      · rw [if_pos a1] at hR; exact hR.symm
      · rw [if_neg a1, if_pos a2] at hR; exact hR.symm⟩
    have hne : er ≠ 0 := by rcases her with ⟨_, rfl⟩ | ⟨_, _, rfl⟩ <;> decide
    have H1 := Aside0.mk hne
    have q0 : (er == 0) = false := beq_eq_false_iff_ne.mpr hne
    have q1 : (er != 0) = true := bne_iff_ne.mpr hne
    clear her hb4 hne hR e14
    go_wp2
    go_ret3
    exact .inl ⟨er, HRE.out, rfl, HB4.out, H1.out⟩
  rw [if_neg n1, if_neg n2] at hR
  have hKR : KRes (firstL Z (p + 14) c) (kS (firstL Z (p + 14) c)) 0 := by
    have := kS_spec (firstL Z (p + 14) c)
    rwa [show eS (firstL Z (p + 14) c) = 0 from by
      by_cases e : eS (firstL Z (p + 14) c) = 0
      · exact e
      · exact absurd (.inl e) n2] at this
  have HROW := Aside0.mk (row_calls base gt g gr (firstL Z (p + 14) c) (kS (firstL Z (p + 14) c)) S Z (p + 14 + 3 * c) (a + b) vo vk out ks most w0 w4 hX4 hT4 hKR HZ.out (by omega) (by omega))
  obtain ⟨R2, hR2⟩ : ∃ R2, rowS (firstL Z (p + 14) c) Z (8 * S.size) (a + b) (a + b + 1) [] (p + 14 + 3 * c) = R2 := ⟨_, rfl⟩
  rw [hR2] at HROW hR
  have HR := Aside0.mk hR
  have HK4 := Aside0.mk (HK3.out.trans hk4 (.inl rfl))
  have HX4 := Aside0.mk hX4
  have HLEN := Aside0.mk (rowS_len hKR hR2 (by omega))
  obtain ⟨nn, hnn⟩ : ∃ nn, a + b = nn := ⟨_, rfl⟩
  rw [hnn] at HROW HLEN
  have HNN := Aside0.mk hnn
  have eab : ((a : Int) + (b : Int)) = (nn : Int) := by omega
  have nn1 : nn ≤ 320 := by omega
  have nn2 : a + 1 ≤ nn := by omega
  clear hnn
  clear hR hR2 hKR n1 n2 hT4 hX4 hk4 e14 HX3 HK3
  go_wp2_with fail
  refine HROW.out.mono ?_
  rintro e w5 h5
  rcases h5 with ⟨er, hRe, rfl, hb5, hne⟩ | ⟨l, q, v5, hRo, rfl, hl5, hX5, hk5, hq⟩
  · have HB5 := Aside0.mk hb5
    have H1 := Aside0.mk hne
    have HRE := Aside0.mk (show Except.error er = R by have := HR.out; rw [hRe] at this; exact this)
    have q0 : (er == 0) = false := beq_eq_false_iff_ne.mpr hne
    have q1 : (er != 0) = true := bne_iff_ne.mpr hne
    clear hb5 hne hRe
    go_wp2
    go_ret3
    exact .inl ⟨er, HRE.out.symm, rfl, HB5.out, H1.out⟩
  have hll : l.length = nn := HLEN.out l q hRo
  have hR5 : (if rd l 256 = 0 then Except.error (2 : Int) else if eS (l.take a) ≠ 0 ∨ eS (l.drop a) ≠ 0 then .error 10 else .ok (l.take a, l.drop a, q)) = R := by
    have := HR.out; rw [hRo] at this; exact this
  obtain ⟨A5, c5, rfl⟩ := Kd.R_slice hl5
  obtain ⟨g5, c5', e5, _, _, _, _⟩ := Kd.R_form hl5 (by omega)
  cases e5
  have HL5 := Aside0.mk hl5
  have HX5 := Aside0.mk hX5
  have HK5 := Aside0.mk (HK4.out.trans hk5 (.inl rfl))
  obtain ⟨hx5, _⟩ := Kd.R_celln 0 hl5 (256 : Int) (by omega) (by omega)
  replace hx5 : w5.cell? ⟨g5, 256, none⟩ = some (.int .i64 (rd l 256)) := hx5.trans rfl
  obtain ⟨hlc, hcap, hC5⟩ := Kd.R_reads' hl5
  obtain ⟨x256, hx256⟩ : ∃ z, rd l 256 = z := ⟨_, rfl⟩
  rw [hx256] at hx5 hR5
  have hl1 : l.length ≤ nn := by omega
  have hl2 : nn ≤ l.length := by omega
  have HQ := Aside0.mk hq
  have HC5 := Aside0.mk hC5
  have HLL := Aside0.mk hll
  clear hl5 hX5 hk5 hlc hC5 hRo HROW HLEN HX4 HK4 HR hll hx256
  by_cases hz : x256 = 0
  · subst hz
    rw [if_pos rfl] at hR5
    have HR := Aside0.mk hR5
    clear hR5
    go_wp2
    go_ret3
    exact .inl ⟨2, HR.out.symm, rfl, HX5.out.2.2.2.2.2, by decide⟩
  rw [if_neg hz] at hR5
  have z0 : (x256 == 0) = false := beq_eq_false_iff_ne.mpr hz
  have HR := Aside0.mk hR5
  have HNA := Aside0.mk (fun W (h : Kd.C (Kd.int .i64) W (some ⟨g5, 0, none⟩) l.length l) => show Calls Try.prog 104 #[.slice (some ⟨g5, 0, none⟩) a c5] W fun e w' => NewPost (l.take a) W e w' from by
    have h2 := Kd.C_take h (m := a) (by omega)
    have h3 := new_calls (some ⟨g5, 0, none⟩) c5 (l.take a) W h2
    rwa [List.length_take, Nat.min_eq_left (by omega)] at h3)
  have HNB := Aside0.mk (fun W (h : Kd.C (Kd.int .i64) W (some ⟨g5, 0, none⟩) l.length l) => show Calls Try.prog 104 #[.slice (some ⟨g5, a, none⟩) (l.length - a) (c5 - a)] W fun e w' => NewPost (l.drop a) W e w' from by
    have h2 := Kd.C_drop h (m := a) (c := c5) (by omega) hcap
    rw [if_neg (by omega), List.length_drop] at h2
    have h3 := new_calls (some ⟨g5, a, none⟩) (c5 - a) (l.drop a) W (by
      rw [List.length_drop]
      have e : (some (⟨g5, 0, none⟩ : Addr)).map (·.add (a * (Kd.int .i64).sz)) = some ⟨g5, a, none⟩ := by
        show some ((⟨g5, 0, none⟩ : Addr).add (a * 1)) = _
        rw [Nat.mul_one]
        unfold Addr.add
        simp
        try omega
      rwa [e] at h2)
    rwa [List.length_drop] at h3)
  clear hz hR5
  have cc : ¬ c5 = a := by omega
  go_wp2_with fail
  refine (HNA.out _ HC5.out).mono ?_
  rintro e w6 ⟨ka, ea, hKa, hb, hra⟩
  have HC6 := Aside0.mk (Kd.C_below HC5.out hb)
  have HX6 := Aside0.mk (HX5.out.below hb)
  have HK6 := Aside0.mk (HK5.out.trans (KeepBut.of_below hb gr none) (.inl rfl))
  have HKA := Aside0.mk hKa
  clear hb hKa HNA
  rcases hra with ⟨hne, rfl⟩ | ⟨rfl, ga, rfl, hTa⟩
  · have q0 : (ea == 0) = false := beq_eq_false_iff_ne.mpr hne
    have q1 : (ea != 0) = true := bne_iff_ne.mpr hne
    have H1 := Aside0.mk hne
    clear hne
    go_wp2_with fail
    refine (HNB.out _ HC6.out).mono ?_
    rintro e w7 ⟨kb, eb, hKb, hb, hrb⟩
    have HX7 := Aside0.mk (HX6.out.below hb)
    have HRE : Aside0 (R = .error 10) := ⟨by have := HR.out; rw [if_pos (.inl (by rw [(kS_of HKA.out).2]; exact H1.out))] at this; exact this.symm⟩
    clear hb hKb HNB
    rcases hrb with ⟨hne, rfl⟩ | ⟨rfl, gb, rfl, hTb⟩
    · clear hne
      go_wp2
      go_ret3
      exact .inl ⟨10, HRE.out, rfl, HX7.out.2.2.2.2.2, by decide⟩
    · clear hTb
      go_wp2
      go_ret3
      exact .inl ⟨10, HRE.out, rfl, HX7.out.2.2.2.2.2, by decide⟩
  · have HTa := Aside0.mk hTa
    clear hTa
    go_wp2_with fail
    refine (HNB.out _ HC6.out).mono ?_
    rintro e w7 ⟨kb, eb, hKb, hb, hrb⟩
    have HX7 := Aside0.mk (HX6.out.below hb)
    have HK7 := Aside0.mk (HK6.out.trans (KeepBut.of_below hb gr none) (.inl rfl))
    have HTa7 := Aside0.mk (HTa.out.below hb)
    have HKB := Aside0.mk hKb
    clear hb hKb HNB HTa
    rcases hrb with ⟨hne, rfl⟩ | ⟨rfl, gb, rfl, hTb⟩
    · have q0 : (eb == 0) = false := beq_eq_false_iff_ne.mpr hne
      have q1 : (eb != 0) = true := bne_iff_ne.mpr hne
      have HRE : Aside0 (R = .error 10) := ⟨by have := HR.out; rw [if_pos (.inr (by rw [(kS_of HKB.out).2]; exact hne))] at this; exact this.symm⟩
      clear hne
      go_wp2
      go_ret3
      exact .inl ⟨10, HRE.out, rfl, HX7.out.2.2.2.2.2, by decide⟩
    · have HTb7 := Aside0.mk hTb
      have e1 := kS_of HKA.out
      have e2 := kS_of HKB.out
      have HE := Aside0.mk (And.intro e1 e2)
      have HRO : Aside0 (R = .ok (l.take a, l.drop a, q)) := ⟨by have := HR.out; rw [if_neg (fun h => h.elim (fun h => h e1.2) (fun h => h e2.2))] at this; exact this.symm⟩
      clear hTb e1 e2
      go_wp2
      go_ret3
      exact .inr ⟨l.take a, l.drop a, q, ga, gb, _, _, HRO.out, rfl, by rw [HE.out.1.1]; exact HTa7.out, by rw [HE.out.2.1]; exact HTb7.out, HE.out.1.2, HE.out.2.2, HX7.out, HK7.out, HQ.out⟩


end Go.Proofs.Ytmanmjjjepdhlaa.XPrefix
