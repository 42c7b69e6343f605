/- The writers of bits: the document's, and the program's Align and Write. It has no conditions. -/
import Derived.Test.YtndcfccbicognaaYBitsWr
import Derived.Lib.AppendStr
import Derived.Deep.DrawnRows
import Derived.Deep.RegionHeld3
namespace Go.Proofs.Ytndcfccbicognaa.XBitsReads
set_option linter.unusedVariables false
set_option linter.unusedSimpArgs false
open Go.RowKit Go.Proofs.YtndcfccbicognaaW.PrintWords Go.Proofs.YtndcfccbicognaaW.PrintLast Go.Proofs.YtndcfccbicognaaW.PrintMore
attribute [local go_sem ↓] Go.wp_at_zero Go.wp_at_succ

theorem own_form {w : World} {base : Nat} {e : TypeId} {size n : Nat} {v : Value} {xs : List Value} (h : w.ownsRow base e size v n xs) : ∃ A c, v = .slice A n c := by
  rcases h.2 with ⟨h, h2⟩ | ⟨k, cap, cur, h, _⟩
  · exact ⟨none, 0, by rw [h, h2]⟩
  · exact ⟨_, _, h⟩
/-- Where the row lies behind an append of a string. -/
theorem run_append_str_lies {P : Program} (w : World) (base : Nat) (t u ty e : TypeId) (i : TypeInfo) (ht : P.underlying t = some (.slice e)) (hu : P.underlying u = some .string) (hi : P.info? e = some i) (hz : i.zero = some (.int .u8 0))
    (hsize : i.size = 1) (hby : i.bytes = 1) (v : Value) (n : Nat) (xs : List Value) (hown : w.ownsRow base e 1 v n xs) (s : ByteArray)
    (h63 : n + s.size ≤ maxLen) (hbytes : n + s.size ≤ 140737488355328) (hbase : base ≤ w.heap.size) :
    ∃ v' w', (Builtin.append_ #[t, u] ty #[v, .string s]).run P w = .ok v' w' ∧ w'.ownsRow base e 1 v' (n + s.size) (xs ++ Lib.strCells s) ∧ w.grownBy w' v.ownBlock ∧ (v'.ownBlock = v.ownBlock ∨ v'.ownBlock = some w.heap.size) := by
  obtain ⟨v', w', hr, h2, h3, h4⟩ := Lib.run_append_own_string (P := P) w base t u ty e i ht hu hi hz hsize hby v n xs hown s h63 hbytes hbase
  refine ⟨v', w', hr, h2, h3, ?_⟩
  have hm63 : n + s.size ≤ 9223372036854775807 := by simp only [maxLen] at h63; omega
  have hxl : xs.length = n := by simpa using hown.1
  rcases hown.2 with ⟨rfl, rfl⟩ | ⟨g, cap, cur, rfl, hbg, hg, hnc, hcm, hcs, htake⟩
  · by_cases hm : s.size = 0
    · rw [h4.2 ⟨rfl, hm⟩]; exact .inl rfl
    · have hr2 := run_append_nil_string (P := P) w t u ty e i (.int .u8 0) ht hu hi hz s (by omega) (by omega) (by rw [hby]; omega)
      rw [hr] at hr2
      injection hr2 with e1 e2
      subst e1
      exact .inr rfl
  · by_cases hroom : n + s.size ≤ cap
    · have hr2 := Lib.run_append_room_string (P := P) w t u ty e i ht hu hi hsize g n cap cur hg s hroom (by simp at hcs; omega)
      rw [hr] at hr2
      injection hr2 with e1 e2
      subst e1
      exact .inl rfl
    · have holds : ∀ j u, xs[j]? = some u → w.cell? ((⟨g, 0, none⟩ : Addr).add j) = some u := hown.cells (g := g) rfl
      have hr2 := Lib.run_append_grow_string (P := P) w t u ty e i (.int .u8 0) ht hu hi hz ⟨g, 0, none⟩ n cap xs (by rw [hsize]; simpa using hxl) holds s (by omega) (by omega) (by rw [hby]; exact growslice_fits (by omega) (by omega))
      rw [hr] at hr2
      injection hr2 with e1 e2
      subst e1
      exact .inr rfl
/-- .. as a step of a region that draws its order. -/
theorem step_append_str {P : Program} {w : World} {ops : Array Oper} {o : Oper} {a : Act} {K : Act → World → Prop} {Q : Exit → Act → World → Prop} {E : Prop} (hgd : o.guard = none) (sl x : Operand) (t u : TypeId)
    (ho : o.op = .call { callee := .builtin .append, args := #[sl, x], argTypes := #[t, u] })
    (base : Nat) (e : TypeId) (i : TypeInfo) (ht : P.underlying t = some (.slice e)) (hu : P.underlying u = some .string) (hi : P.info? e = some i) (hz : i.zero = some (.int .u8 0))
    (hsize : i.size = 1) (hby : i.bytes = 1) (v : Value) (n : Nat) (xs : List Value) (hs : a.eval sl = v) (hown : w.ownsRow base e 1 v n xs) (s : ByteArray) (hx : a.eval x = .string s)
    (h63 : n + s.size ≤ maxLen) (hbytes : n + s.size ≤ 140737488355328) (hbase : base ≤ w.heap.size) (H : Nat) (hH : w.heap.size = H)
    (h : ∀ A' c' w', w'.ownsRow base e 1 (.slice A' (n + s.size) c') (n + s.size) (xs ++ Lib.strCells s) → w.grownBy w' v.ownBlock → ((Value.slice A' (n + s.size) c').ownBlock = v.ownBlock ∨ (Value.slice A' (n + s.size) c').ownBlock = some H) → K (a.put o.dst (.slice A' (n + s.size) c')) w') :
    if Region.wanted o (yielded ops a.tmps) = true then Oper.wp P o a w K Q else E := by
  have hw : Region.wanted o (yielded ops a.tmps) = true := by simp [Region.wanted, hgd]
  rw [if_pos hw]
  obtain ⟨v', w', hr, h2, h3, h4⟩ := run_append_str_lies (P := P) w base t u o.type e i ht hu hi hz hsize hby v n xs hown s h63 hbytes hbase
  obtain ⟨A', c', rfl⟩ := own_form h2
  unfold Oper.wp execOp
  simp only [ho, resolve, invoke, builtin, Sem.run_bind, Sem.run_pure, Result.andThen_ok, List.map_toArray, List.map_cons, List.map_nil, hs, hx, hr]
  exact h A' c' w' h2 h3 (by rw [hH] at h4; exact h4)
/-- .. and in a plain region. -/
theorem wpList_append_str {P : Program} {w : World} {ops : Array Oper} {rest : List Oper} {o : Oper} {a : Act} {Q : Exit → Act → World → Prop} (hgd : o.guard = none) (sl x : Operand) (t u : TypeId)
    (ho : o.op = .call { callee := .builtin .append, args := #[sl, x], argTypes := #[t, u] })
    (base : Nat) (e : TypeId) (i : TypeInfo) (ht : P.underlying t = some (.slice e)) (hu : P.underlying u = some .string) (hi : P.info? e = some i) (hz : i.zero = some (.int .u8 0))
    (hsize : i.size = 1) (hby : i.bytes = 1) (v : Value) (n : Nat) (xs : List Value) (hs : a.eval sl = v) (hown : w.ownsRow base e 1 v n xs) (s : ByteArray) (hx : a.eval x = .string s)
    (h63 : n + s.size ≤ maxLen) (hbytes : n + s.size ≤ 140737488355328) (hbase : base ≤ w.heap.size) (H : Nat) (hH : w.heap.size = H)
    (h : ∀ A' c' w', w'.ownsRow base e 1 (.slice A' (n + s.size) c') (n + s.size) (xs ++ Lib.strCells s) → w.grownBy w' v.ownBlock → ((Value.slice A' (n + s.size) c').ownBlock = v.ownBlock ∨ (Value.slice A' (n + s.size) c').ownBlock = some H) → wpList P ops Q rest (a.put o.dst (.slice A' (n + s.size) c')) w') : wpList P ops Q (o :: rest) a w := by
  refine wpList_plain hgd fun K hK => ?_
  obtain ⟨v', w', hr, h2, h3, h4⟩ := run_append_str_lies (P := P) w base t u o.type e i ht hu hi hz hsize hby v n xs hown s h63 hbytes hbase
  obtain ⟨A', c', rfl⟩ := own_form h2
  unfold Oper.wp execOp
  simp only [ho, resolve, invoke, builtin, Sem.run_bind, Sem.run_pure, Result.andThen_ok, List.map_toArray, List.map_cons, List.map_nil, hs, hx, hr]
  exact hK _ _ (h A' c' w' h2 h3 (by rw [hH] at h4; exact h4))
/-- append of a slice, nil or not, onto a row of the call's own. -/
theorem run_append_vec {P : Program} (w : World) (base : Nat) (t ty e : TypeId) (i : TypeInfo) (z : Value) (size bytes : Nat) (ht : P.underlying t = some (.slice e)) (hi : P.info? e = some i) (hz : i.zero = some z)
    (hsize : i.size = size) (hby : i.bytes = bytes) (hzs : z.cells.size = size) (hsz : 0 < size)
    (v : Value) (n : Nat) (xs : List Value) (hown : w.ownsRow base e size v n xs)
    (A : Option Addr) (m c : Nat) (news : List Value) (hl : news.length = m * size) (hr : 0 < m → ∃ ad, A = some ad ∧ ∀ j u, news[j]? = some u → w.cell? (ad.add j) = some u) (h1 : ∀ u ∈ news, u.oneCell' = true)
    (h63 : n + m ≤ maxLen) (hbytes : (n + m) * bytes ≤ 140737488355328) (hbase : base ≤ w.heap.size) :
    ∃ v' w', (Builtin.append_ #[t, t] ty #[v, .slice A m c]).run P w = .ok v' w' ∧ w'.ownsRow base e size v' (n + m) (xs ++ news) ∧ w.grownBy w' v.ownBlock ∧ (v'.ownBlock = v.ownBlock ∨ v'.ownBlock = some w.heap.size) := by
  rcases A with _ | ad
  · have hm : m = 0 := by
      rcases Nat.eq_zero_or_pos m with h0 | h0
      · exact h0
      · obtain ⟨ad, h, _⟩ := hr h0
        cases h
    subst hm
    have hn : news = [] := List.eq_nil_of_length_eq_zero (by simpa using hl)
    subst hn
    refine ⟨v, w, ?_, by simpa using hown, World.grownBy.refl w _, .inl rfl⟩
    rcases hown.2 with ⟨rfl, rfl⟩ | ⟨g, cap, cur, rfl, _, _, hnc, _⟩
    · simp [Builtin.append_, run_underlying ht, sizeOf, typeInfo, hi, Builtin.lenOf, Builtin.firstCells]
    · simp [Builtin.append_, run_underlying ht, sizeOf, typeInfo, hi, Builtin.lenOf, Builtin.firstCells, hnc, storeCells]
  · have hcells : ∀ j u, news[j]? = some u → w.cell? (ad.add j) = some u := by
      intro j u hu
      rcases Nat.eq_zero_or_pos m with h0 | h0
      · subst h0
        have hn : news = [] := List.eq_nil_of_length_eq_zero (by simpa using hl)
        subst hn
        simp at hu
      · obtain ⟨ad', h, hc⟩ := hr h0
        injection h with h
        subst h
        exact hc j u hu
    obtain ⟨v', w', hrun, h2, h3, _, h5⟩ := run_append_own_at (P := P) w base t ty e i z size bytes ht hi hz hsize hby hzs hsz v n xs hown ad m c news hl hcells h1 h63 hbytes hbase
    exact ⟨v', w', hrun, h2, h3, h5⟩
theorem wp_append_vec {P : Program} {w : World} {o : Oper} {a : Act} {K : Act → World → Prop} {Q : Exit → Act → World → Prop} (s x : Operand) (t : TypeId)
    (ho : o.op = .call { callee := .builtin .append, args := #[s, x], argTypes := #[t, t] })
    (base : Nat) (e : TypeId) (i : TypeInfo) (z : Value) (size bytes : Nat) (ht : P.underlying t = some (.slice e)) (hi : P.info? e = some i) (hz : i.zero = some z)
    (hsize : i.size = size) (hby : i.bytes = bytes) (hzs : z.cells.size = size) (hsz : 0 < size)
    (v : Value) (n : Nat) (xs : List Value) (hs : a.eval s = v) (hown : w.ownsRow base e size v n xs)
    (A : Option Addr) (m c : Nat) (news : List Value) (hx : a.eval x = .slice A m c) (hl : news.length = m * size) (hr : 0 < m → ∃ ad, A = some ad ∧ ∀ j u, news[j]? = some u → w.cell? (ad.add j) = some u) (h1 : ∀ u ∈ news, u.oneCell' = true)
    (h63 : n + m ≤ maxLen) (hbytes : (n + m) * bytes ≤ 140737488355328) (hbase : base ≤ w.heap.size) (H : Nat) (hH : w.heap.size = H)
    (h : ∀ A' c' w', w'.ownsRow base e size (.slice A' (n + m) c') (n + m) (xs ++ news) → w.grownBy w' v.ownBlock → ((Value.slice A' (n + m) c').ownBlock = v.ownBlock ∨ (Value.slice A' (n + m) c').ownBlock = some H) → K (a.put o.dst (.slice A' (n + m) c')) w') : o.wp P a w K Q := by
  obtain ⟨v', w', hrun, h2, h3, h4⟩ := run_append_vec (P := P) w base t o.type e i z size bytes ht hi hz hsize hby hzs hsz v n xs hown A m c news hl hr h1 h63 hbytes hbase
  obtain ⟨A', c', rfl⟩ := own_form h2
  unfold Oper.wp execOp
  simp only [ho, resolve, invoke, builtin, Sem.run_bind, Sem.run_pure, Result.andThen_ok, List.map_toArray, List.map_cons, List.map_nil, hs, hx, hrun]
  exact h A' c' w' h2 h3 (by rw [hH] at h4; exact h4)
theorem step_append_vec {P : Program} {w : World} {ops : Array Oper} {o : Oper} {a : Act} {K : Act → World → Prop} {Q : Exit → Act → World → Prop} {E : Prop} (hgd : o.guard = none) (s x : Operand) (t : TypeId)
    (ho : o.op = .call { callee := .builtin .append, args := #[s, x], argTypes := #[t, t] })
    (base : Nat) (e : TypeId) (i : TypeInfo) (z : Value) (size bytes : Nat) (ht : P.underlying t = some (.slice e)) (hi : P.info? e = some i) (hz : i.zero = some z)
    (hsize : i.size = size) (hby : i.bytes = bytes) (hzs : z.cells.size = size) (hsz : 0 < size)
    (v : Value) (n : Nat) (xs : List Value) (hs : a.eval s = v) (hown : w.ownsRow base e size v n xs)
    (A : Option Addr) (m c : Nat) (news : List Value) (hx : a.eval x = .slice A m c) (hl : news.length = m * size) (hr : 0 < m → ∃ ad, A = some ad ∧ ∀ j u, news[j]? = some u → w.cell? (ad.add j) = some u) (h1 : ∀ u ∈ news, u.oneCell' = true)
    (h63 : n + m ≤ maxLen) (hbytes : (n + m) * bytes ≤ 140737488355328) (hbase : base ≤ w.heap.size) (H : Nat) (hH : w.heap.size = H)
    (h : ∀ A' c' w', w'.ownsRow base e size (.slice A' (n + m) c') (n + m) (xs ++ news) → w.grownBy w' v.ownBlock → ((Value.slice A' (n + m) c').ownBlock = v.ownBlock ∨ (Value.slice A' (n + m) c').ownBlock = some H) → K (a.put o.dst (.slice A' (n + m) c')) w') :
    if Region.wanted o (yielded ops a.tmps) = true then Oper.wp P o a w K Q else E := by
  have hw : Region.wanted o (yielded ops a.tmps) = true := by simp [Region.wanted, hgd]
  rw [if_pos hw]
  exact wp_append_vec s x t ho base e i z size bytes ht hi hz hsize hby hzs hsz v n xs hs hown A m c news hx hl hr h1 h63 hbytes hbase H hH h
theorem wpList_append_vec {P : Program} {w : World} {ops : Array Oper} {rest : List Oper} {o : Oper} {a : Act} {Q : Exit → Act → World → Prop} (hgd : o.guard = none) (s x : Operand) (t : TypeId)
    (ho : o.op = .call { callee := .builtin .append, args := #[s, x], argTypes := #[t, t] })
    (base : Nat) (e : TypeId) (i : TypeInfo) (z : Value) (size bytes : Nat) (ht : P.underlying t = some (.slice e)) (hi : P.info? e = some i) (hz : i.zero = some z)
    (hsize : i.size = size) (hby : i.bytes = bytes) (hzs : z.cells.size = size) (hsz : 0 < size)
    (v : Value) (n : Nat) (xs : List Value) (hs : a.eval s = v) (hown : w.ownsRow base e size v n xs)
    (A : Option Addr) (m c : Nat) (news : List Value) (hx : a.eval x = .slice A m c) (hl : news.length = m * size) (hr : 0 < m → ∃ ad, A = some ad ∧ ∀ j u, news[j]? = some u → w.cell? (ad.add j) = some u) (h1 : ∀ u ∈ news, u.oneCell' = true)
    (h63 : n + m ≤ maxLen) (hbytes : (n + m) * bytes ≤ 140737488355328) (hbase : base ≤ w.heap.size) (H : Nat) (hH : w.heap.size = H)
    (h : ∀ A' c' w', w'.ownsRow base e size (.slice A' (n + m) c') (n + m) (xs ++ news) → w.grownBy w' v.ownBlock → ((Value.slice A' (n + m) c').ownBlock = v.ownBlock ∨ (Value.slice A' (n + m) c').ownBlock = some H) → wpList P ops Q rest (a.put o.dst (.slice A' (n + m) c')) w') : wpList P ops Q (o :: rest) a w :=
  wpList_plain hgd fun _ hK => wp_append_vec s x t ho base e i z size bytes ht hi hz hsize hby hzs hsz v n xs hs hown A m c news hx hl hr h1 h63 hbytes hbase H hH fun A' c' w' h2 h3 h4 => hK _ _ (h A' c' w' h2 h3 h4)

/-- The document's writer at block g; its bits are the call's own. -/
def IsV (w0 W : World) (g : Nat) (v : Value) (B : List Int) : Prop :=
  W.heap[g]? = some (.cells #[v] 50 (0, 0)) ∧ w0.heap.size ≤ g ∧ W.ownsRow w0.heap.size 5 1 v B.length (encs (Value.int .u8) B)
theorem IsV.ne {w0 W : World} {g : Nat} {v : Value} {B : List Int} (h : IsV w0 W g v B) : v.ownBlock ≠ some g := own_ne h.1 h.2.2 (by decide)
theorem IsV.drewN {w0 W : World} {g : Nat} {v : Value} {B : List Int} (h : IsV w0 W g v B) (m : Nat) : IsV w0 (W.drewN m) g v B := h
theorem IsV.below {w0 W W1 : World} {g : Nat} {v : Value} {B : List Int} (h : IsV w0 W g v B) (hb : Below W.heap.size W W1) : IsV w0 W1 g v B :=
  ⟨blk_below h.1 hb, h.2.1, own_move h.2.2 (fun k hk => hb.block k (h.2.2.lt k hk).2)⟩
/-- What a call of its leaves. -/
def VPost (w0 w : World) (g : Nat) (v : Value) (B : List Int) (w' : World) : Prop :=
  ∃ v', IsV w0 w' g v' B ∧ Below w0.heap.size w0 w' ∧ KeepBut w w' g v.ownBlock ∧ (v'.ownBlock = v.ownBlock ∨ ∃ b, v'.ownBlock = some b ∧ w.heap.size ≤ b)
theorem own_alt2 {w wr : World} {v v' v2 : Value} (hs : w.heap.size ≤ wr.heap.size) (hv : v'.ownBlock = v.ownBlock ∨ ∃ b, v'.ownBlock = some b ∧ w.heap.size ≤ b) {H : Nat} (hH : wr.heap.size ≤ H) (hat : v2.ownBlock = v'.ownBlock ∨ v2.ownBlock = some H) : v2.ownBlock = v.ownBlock ∨ ∃ b, v2.ownBlock = some b ∧ w.heap.size ≤ b := by
  rcases hat with hat | hat
  · rw [hat]; exact hv
  · exact .inr ⟨H, hat, by omega⟩
/-- Behind an append onto it, and the store. -/
theorem IsV.stored {w0 W1 : World} {g : Nat} {v v1 : Value} {m : Nat} {xs : List Value} {B1 : List Int} (hb : W1.heap[g]? = some (.cells #[v] 50 (0, 0))) (hg : w0.heap.size ≤ g) (ho : W1.ownsRow w0.heap.size 5 1 v1 m xs) (hm : B1.length = m) (hx : encs (Value.int .u8) B1 = xs) : IsV w0 (W1.setCell ⟨g, 0, none⟩ v1) g v1 B1 := by
  subst hm hx
  exact ⟨by simpa using blk_set hb 0 v1, hg, own_set (own_ne hb ho (by decide)) ho _ _⟩

set_option maxHeartbeats 1600000 in
set_option maxRecDepth 100000 in
/-- montageref01.Writer.Put. -/
theorem rput_walk (g : Nat) (v : Value) (B : List Int) (x : Nat) (N : Int) (w0 w : World) (hI : IsV w0 w g v B) (hBe : Below w0.heap.size w0 w) (hx : x < 4294967296) (hBl : B.length ≤ 1000000) :
    Calls Try.prog 31 #[.pointer (some ⟨g, 0, none⟩), .int .u32 (x : Int), .int .i64 N] w fun e w' => e = .returned (.tuple #[]) ∧ VPost w0 w g v (B ++ bl x (cl N)) w' := by
  obtain ⟨i0, hi0, hz0, hz1, hz2⟩ := info_parts info5
  have HI := Aside0.mk hI
  have HB := Aside0.mk hBe
  clear hI hBe
  go_enter Try.func31, Try.ntmps31
  go_wp2_with fail
  go_loopw [1, 6] (fun v1 v6 wr => ∃ (k : Nat) (v' : Value), k ≤ cl N ∧ v1 = .int .u32 ((x / 2 ^ k : Nat) : Int) ∧ v6 = .int .i64 (k : Int) ∧ Aside0 (IsV w0 wr g v' (B ++ bl x k)) ∧ Aside0 (Below w0.heap.size w0 wr) ∧ Aside0 (KeepBut w wr g v.ownBlock) ∧ Aside0 (v'.ownBlock = v.ownBlock ∨ ∃ b, v'.ownBlock = some b ∧ w.heap.size ≤ b)) (fun _ v6 _ => cl N - (intOf v6).toNat)
  case atStart => exact ⟨0, v, by omega, by simp, rfl, ⟨by simpa [bl] using HI.out⟩, HB, ⟨KeepBut.refl w g _⟩, ⟨.inl rfl⟩⟩
  case round =>
    clear HI HB
    obtain ⟨k, v', hk, rfl, rfl, HI, HB, HK, HV⟩ := hrel
    have hcl := cl_le N
    have hclN : ((cl N : Nat) : Int) = (if 32 < (if N < 0 then 0 else N) then 32 else (if N < 0 then 0 else N)) := by unfold cl; split <;> split <;> omega
    have hT : x / 2 ^ k ≤ x := Nat.div_le_self _ _
    obtain ⟨T, hTT⟩ : ∃ T, x / 2 ^ k = T := ⟨_, rfl⟩
    have hT2 : x / 2 ^ (k + 1) = T / 2 := by rw [← hTT, Nat.pow_succ, Nat.div_div_eq_div_mul]
    have hbs : B ++ bl x (k + 1) = (B ++ bl x k) ++ [((T % 2 : Nat) : Int)] := by rw [bl_succ, hTT, List.append_assoc]
    have hl2 : (B ++ bl x k).length ≤ 1000040 := by rw [List.length_append, bl_len]; omega
    obtain ⟨L, hL⟩ : ∃ L, B ++ bl x k = L := ⟨_, rfl⟩
    rw [hTT] at hT ⊢
    rw [hL] at hbs hl2 HI
    have LE := Aside0.mk hL
    have HL := Aside0.mk hl2
    clear hL hl2
    have TT := Aside0.mk hT2
    have BS := Aside0.mk hbs
    clear hTT hT2 hbs
    by_cases hlt : k < cl N
    · have e1 : decide ((k : Int) < N) = true := decide_eq_true (by split at hclN <;> split at hclN <;> omega)
      have e2 : decide ((k : Int) < 32) = true := decide_eq_true (by omega)
      clear hclN
      have b1 : 0 ≤ (T : Int) := by omega
      have b2 : (T : Int) ≤ 4294967295 := by omega
      have hc0 : wr.cell? ⟨g, 0, none⟩ = some v' := (blk_cell HI.out.1 0).trans rfl
      have hf0 := blk_frozen HI.out.1 0
      have hlt0 := blk_lt HI.out.1
      have hne := Aside0.mk HI.out.ne
      go_wp2_with (first
        | (at_builtin; refine wpList_append_vec (by rfl) (.tmp 20) (.tmp 24) 43 (by rfl) w0.heap.size 5 i0 _ 1 1 Try.underlying43 hi0 hz0 hz1 hz2 rfl (by omega) v' L.length (encs (Value.int .u8) L) (by rfl) (HI.out.2.2.alloc _) (some ⟨wr.heap.size, 0, none⟩) 1 1 [.int .u8 ((T % 2 : Nat) : Int)] (by rfl) (by rfl) (fun _ => ⟨_, rfl, World.news_of_block (cs := #[.int .u8 ((T % 2 : Nat) : Int)]) (t := 5) (fr := (0, 0)) (heap_alloc_new wr _)⟩) (by simp [Value.oneCell']) (by have := HL.out; simp only [maxLen]; omega) (by have := HL.out; omega) (by simp; have := below_size HB.out; omega) (wr.heap.size + 1) (by simp) ?_; intro A2 c2 w2 hown2 hgrow2 hat2; have O2 := Aside0.mk hown2; have BK2 := Aside0.mk (show w2.heap[g]? = some (.cells #[v'] 50 (0, 0)) from (hgrow2.block g (by simp; omega) (fun e => hne.out e.symm)).trans (blk_alloc HI.out.1 _)); have HB2 := Aside0.mk (show Below w0.heap.size w0 w2 from Below.grown (below_alloc HB.out _) hgrow2 (by simp; have := below_size HB.out; omega) (own_base HI.out.2.2)); have HK2 := Aside0.mk (show KeepBut w w2 g v.ownBlock from KeepBut.trans (keep_alloc2 HK.out _) (KeepBut.of_grown hgrow2 g) HV.out); have HV2 := Aside0.mk (own_alt2 HK.out.1 HV.out (Nat.le_succ _) hat2); clear hown2 hgrow2 hat2; have kc0 := (blk_cell BK2.out 0).trans rfl; have kf0 := blk_frozen BK2.out 0))
      go_roundw
      case rel => exact ⟨k + 1, _, by omega, by rw [TT.out]; rfl, by go_num, ⟨IsV.stored BK2.out HI.out.2.1 O2.out (by rw [BS.out]; simp) (by rw [BS.out, encs_append]; rfl)⟩, ⟨below_set HB2.out HI.out.2.1⟩, ⟨HK2.out.set_ _ _⟩, HV2⟩
      case measure => simp [intOf]; omega
    · have hk2 : k = cl N := by omega
      have e3 : decide ((k : Int) < N) = false ∨ (decide ((k : Int) < N) = true ∧ decide ((k : Int) < 32) = false) := by
        by_cases h : (k : Int) < N
        · exact .inr ⟨decide_eq_true h, decide_eq_false (by split at hclN <;> split at hclN <;> omega)⟩
        · exact .inl (decide_eq_false h)
      have HKK := Aside0.mk hk2
      clear hclN hk2
      rcases e3 with e1 | ⟨e1, e2⟩
      all_goals
        go_wp2
        first | go_end0 | ((try simp only [Exit.inBlock, Exit.then]); refine bodyPost_ret (results_none rfl _ _ _) rfl ?_)
        exact ⟨rfl, v', by rw [← HKK.out, LE.out]; exact HI.out, HB.out, HK.out, HV.out⟩

set_option maxHeartbeats 1600000 in
set_option maxRecDepth 100000 in
/-- montageref01.Writer.Align. -/
theorem ralign_walk (g : Nat) (v : Value) (Z t : Nat) (w0 w : World) (hI : IsV w0 w g v (bl Z t)) (hBe : Below w0.heap.size w0 w) (hZ : Z < 2 ^ t) (ht : t ≤ 1000000) :
    Calls Try.prog 32 #[.pointer (some ⟨g, 0, none⟩)] w fun e w' => e = .returned (.tuple #[]) ∧ VPost w0 w g v (bl Z ((t + 7) / 8 * 8)) w' := by
  obtain ⟨i0, hi0, hz0, hz1, hz2⟩ := info_parts info5
  have HI := Aside0.mk hI
  have HB := Aside0.mk hBe
  have HZ := Aside0.mk hZ
  clear hI hBe hZ
  go_enter Try.func32, Try.ntmps32
  go_wp2_with fail
  go_loopg [] 9 (fun kq wr => ∃ (d : Nat) (v' : Value), t + d + kq ≤ (t + 7) / 8 * 8 + 9 ∧ t + d ≤ (t + 7) / 8 * 8 ∧ (t + 7) / 8 * 8 < t + d + kq ∧ Aside0 (IsV w0 wr g v' (bl Z (t + d))) ∧ Aside0 (Below w0.heap.size w0 wr) ∧ Aside0 (KeepBut w wr g v.ownBlock) ∧ Aside0 (v'.ownBlock = v.ownBlock ∨ ∃ b, v'.ownBlock = some b ∧ w.heap.size ≤ b))
  case atStart => exact ⟨0, v, by omega, by omega, by omega, HI, HB, ⟨KeepBut.refl w g _⟩, ⟨.inl rfl⟩⟩
  case round =>
    clear HI HB
    obtain ⟨d, v', hd1, hd2, hd3, HI, HB, HK, HV⟩ := hrel
    have D := Aside0.mk (And.intro hd1 (And.intro hd2 hd3))
    clear hd1 hd2 hd3
    have hll : (bl Z (t + d)).length = t + d := bl_len _ _
    have hbs : bl Z (t + d + 1) = bl Z (t + d) ++ [0] := by
      rw [bl_succ, Nat.div_eq_of_lt (Nat.lt_of_lt_of_le HZ.out (Nat.pow_le_pow_right (by omega) (by omega)))]
      rfl
    obtain ⟨L, hL⟩ : ∃ L, bl Z (t + d) = L := ⟨_, rfl⟩
    obtain ⟨n, hn⟩ : ∃ n, t + d = n := ⟨_, rfl⟩
    rw [hL] at hll hbs HI
    rw [hn] at hll hbs
    have BS := Aside0.mk hbs
    have LL := Aside0.mk hll
    have NN := Aside0.mk hn
    have hLe := Aside0.mk hL
    obtain ⟨A1, c1, rfl⟩ := own_form HI.out.2.2
    have hc0 : wr.cell? ⟨g, 0, none⟩ = some (.slice A1 L.length c1) := (blk_cell HI.out.1 0).trans rfl
    have hf0 := blk_frozen HI.out.1 0
    have hlt0 := blk_lt HI.out.1
    have hne := Aside0.mk HI.out.ne
    have b1 : (L.length : Int) ≤ 1000010 := by have := D.out; omega
    clear hbs hll hL hn
    cases gk with
    | zero => exact absurd D.out.2.2 (by have := D.out; omega)
    | succ k1 =>
      by_cases h8 : L.length % 8 = 0
      · have e8 : ((L.length : Int) % 8 == 0) = true := beq_iff_eq.mpr (by omega)
        have e9 : ((L.length : Int) % 8 != 0) = false := by rw [bne, e8]; rfl
        have E8 := Aside0.mk h8
        clear h8
        go_wp2_with fail
        first | go_end0 | ((try simp only [Exit.inBlock, Exit.then]); refine bodyPost_ret (results_none rfl _ _ _) rfl ?_)
        refine ⟨rfl, _, ?_, HB.out, HK.out, HV.out⟩
        have h1 : (t + 7) / 8 * 8 = t + d := by have := E8.out; have := D.out; have := LL.out; have := NN.out; omega
        rw [h1, hLe.out]
        exact HI.out
      · have e8 : ((L.length : Int) % 8 == 0) = false := beq_eq_false_iff_ne.mpr (by omega)
        have e9 : ((L.length : Int) % 8 != 0) = true := by rw [bne, e8]; rfl
        have E8 := Aside0.mk h8
        clear h8
        go_wp2_with (first
          | (at_builtin; refine wpList_append_vec (by rfl) (.tmp 13) (.tmp 14) 43 (by rfl) w0.heap.size 5 i0 _ 1 1 Try.underlying43 hi0 hz0 hz1 hz2 rfl (by omega) (.slice A1 L.length c1) L.length (encs (Value.int .u8) L) (by rfl) (HI.out.2.2.alloc _) (some ⟨wr.heap.size, 0, none⟩) 1 1 [.int .u8 0] (by rfl) (by rfl) (fun _ => ⟨_, rfl, World.news_of_block (cs := #[.int .u8 0]) (t := 5) (fr := (0, 0)) (heap_alloc_new wr _)⟩) (by simp [Value.oneCell']) (by simp only [maxLen]; omega) (by omega) (by simp; have := below_size HB.out; omega) (wr.heap.size + 1) (by simp) ?_; intro A2 c2 w2 hown2 hgrow2 hat2; have O2 := Aside0.mk hown2; have BK2 := Aside0.mk (show w2.heap[g]? = some (.cells #[.slice A1 L.length c1] 50 (0, 0)) from (hgrow2.block g (by simp; omega) (fun e => hne.out e.symm)).trans (blk_alloc HI.out.1 _)); have HB2 := Aside0.mk (show Below w0.heap.size w0 w2 from Below.grown (below_alloc HB.out _) hgrow2 (by simp; have := below_size HB.out; omega) (own_base HI.out.2.2)); have HK2 := Aside0.mk (show KeepBut w w2 g v.ownBlock from KeepBut.trans (keep_alloc2 HK.out _) (KeepBut.of_grown hgrow2 g) HV.out); have HV2 := Aside0.mk (own_alt2 HK.out.1 HV.out (Nat.le_succ _) hat2); clear hown2 hgrow2 hat2; have kc0 := (blk_cell BK2.out 0).trans rfl; have kf0 := blk_frozen BK2.out 0))
        go_roundg k1
        case measure => omega
        case rel =>
          have h1 : bl Z (t + (d + 1)) = L ++ [0] := by
            have h2 := BS.out
            rw [← Nat.add_assoc, NN.out]
            exact h2
          refine ⟨d + 1, .slice A2 (L.length + 1) c2, by have := D.out; omega, by have := D.out; have := E8.out; have := LL.out; have := NN.out; omega, by have := D.out; have := E8.out; have := LL.out; have := NN.out; omega, ⟨?_⟩, ⟨below_set HB2.out HI.out.2.1⟩, ⟨HK2.out.set_ _ _⟩, HV2⟩
          rw [h1]
          exact IsV.stored BK2.out HI.out.2.1 O2.out (by simp) (by rw [encs_append]; rfl)

theorem C_own {W : World} {base : Nat} {A : Option Addr} {n c : Nat} {xs : List Int} (h : Kd.R (Kd.int .u8) 5 W base (fun _ => True) (.slice A n c) xs) : Kd.C (Kd.int .u8) W A n xs :=
  Kd.C_foot_own (g := W.heap.size) (Kd.R_mono (Kd.R_bound h) (ok' := fun k => k ≠ W.heap.size) (fun k hk => by have := hk.2.2.1; omega)) (fun k hk => hk) W (KeepBut.refl W _ none)
theorem R_form {W : World} {base : Nat} {v : Value} {xs : List Int} (h : Kd.R (Kd.int .u8) 5 W base (fun _ => True) v xs) : ∃ A c, v = .slice A xs.length c ∧ Kd.C (Kd.int .u8) W A xs.length xs := by
  obtain ⟨inner, ho⟩ := Kd.R_own h
  obtain ⟨A, c, rfl⟩ := own_form ho
  exact ⟨A, c, rfl, C_own h⟩
theorem cells_of_C {W : World} {A : Option Addr} {n : Nat} {xs : List Int} (h : Kd.C (Kd.int .u8) W A n xs) : 0 < n → ∃ ad, A = some ad ∧ ∀ j u, (encs (Value.int .u8) xs)[j]? = some u → W.cell? (ad.add j) = some u := by
  intro hn
  have h2 := Kd.reads_of_C (enc := Value.int .u8) (d := (0 : Int)) (h1 := fun _ => rfl) h
  obtain ⟨ad, e, hc⟩ := h2.2.2 hn
  refine ⟨ad, e, fun j u hu => ?_⟩
  have hl : xs.length = n := h2.1
  have hj : j < xs.length := by
    rcases Nat.lt_or_ge j xs.length with h | h
    · exact h
    · rw [List.getElem?_eq_none (by simpa [encs] using h)] at hu; cases hu
  rw [hc j (by omega), ← hu]
  simp [encs, List.getD_eq_getElem?_getD, List.getElem?_eq_getElem hj]
set_option maxHeartbeats 1600000 in
set_option maxRecDepth 100000 in
/-- montageref01.Writer.Write. -/
theorem rwrite_walk (g : Nat) (v : Value) (Z t : Nat) (S : ByteArray) (ZS : Nat) (hS : S.size ≤ 1000) (hZS : ∀ i, i < S.size → bt S (i : Int) = ((ZS / 256 ^ i % 256 : Nat) : Int)) (w0 w : World) (hI : IsV w0 w g v (bl Z t)) (hBe : Below w0.heap.size w0 w) (hZ : Z < 2 ^ t) (ht : t ≤ 1000000) :
    Calls Try.prog 33 #[.pointer (some ⟨g, 0, none⟩), .string S] w fun e w' => e = .returned (.tuple #[]) ∧ VPost w0 w g v (bl Z ((t + 7) / 8 * 8) ++ bl ZS (8 * S.size)) w' := by
  obtain ⟨i0, hi0, hz0, hz1, hz2⟩ := info_parts info5
  obtain ⟨kof, hof⟩ := (ref_of S ZS (by omega) hZS).rounds
  have OF := Aside0.mk hof
  have HB := Aside0.mk hBe
  have AL := Aside0.mk (ralign_walk g v Z t w0 w hI hBe hZ ht)
  have hbl : (bl Z ((t + 7) / 8 * 8)).length = (t + 7) / 8 * 8 := bl_len _ _
  have hrl : (bl ZS (8 * S.size)).length = 8 * S.size := bl_len _ _
  obtain ⟨L, hL⟩ : ∃ L, bl Z ((t + 7) / 8 * 8) = L := ⟨_, rfl⟩
  obtain ⟨R, hR⟩ : ∃ R, bl ZS (8 * S.size) = R := ⟨_, rfl⟩
  rw [hL] at AL hbl ⊢
  rw [hR] at OF hrl ⊢
  have LL := Aside0.mk (show L.length ≤ 1000010 by omega)
  have RL := Aside0.mk (show R.length ≤ 8000 by omega)
  clear hI hBe hZ hof hbl hrl hL hR hZS
  go_enter Try.func33, Try.ntmps33
  go_wp2_with fail
  refine AL.out.mono ?_
  rintro e w1 ⟨rfl, v1, hI1, hB1, hK1, hV1⟩
  have HI := Aside0.mk hI1
  have HB1 := Aside0.mk hB1
  have HK := Aside0.mk hK1
  have HV := Aside0.mk hV1
  clear hI1 hB1 hK1 hV1 AL
  have hc0 : w1.cell? ⟨g, 0, none⟩ = some v1 := (blk_cell HI.out.1 0).trans rfl
  have hlt0 := blk_lt HI.out.1
  have hne := Aside0.mk HI.out.ne
  go_wp2_with fail
  go_region_law
    (first
      | ((refine step_append_vec (by rfl) _ _ _ (by rfl) w0.heap.size 5 i0 _ 1 1 Try.underlying43 hi0 hz0 hz1 hz2 rfl (by omega) v1 L.length (encs (Value.int .u8) L) (by rfl) (HI3.out.2.2) A1 R.length c1 (encs (Value.int .u8) R) (by rfl) (by simp [encs]) (cells_of_C RC.out) (by intro u hu; simp [encs] at hu; obtain ⟨_, _, rfl⟩ := hu; rfl) (by have := LL.out; have := RL.out; simp only [maxLen]; omega) (by have := LL.out; have := RL.out; omega) (by have := below_size HB3.out; omega) w3.heap.size rfl ?_; intro A2 c2 w4 hown2 hgrow2 hat2; have O2 := Aside0.mk hown2; have BK2 := Aside0.mk (show w4.heap[g]? = some (.cells #[v1] 50 (0, 0)) from (hgrow2.block g (blk_lt HI3.out.1) (fun e => hne.out e.symm)).trans HI3.out.1); have HB4 := Aside0.mk (show Below w0.heap.size w0 w4 from Below.grown HB3.out hgrow2 (by have := below_size HB3.out; omega) (own_base HI3.out.2.2)); have HK4 := Aside0.mk (show KeepBut w w4 g v.ownBlock from KeepBut.trans HK3.out (KeepBut.of_grown hgrow2 g) HV.out); have HV4 := Aside0.mk (own_alt2 HK3.out.1 HV.out (Nat.le_refl _) hat2); clear hown2 hgrow2 hat2; have kc0 := (blk_cell BK2.out 0).trans rfl; have kf0 := blk_frozen BK2.out 0))
      | ((go_simp; go_at_call 27; refine (montageref01_Of.calls kof S R w1.drew OF.out).mono ?_; rintro e w3 ⟨vv, rfl, hO, hb⟩; have HI3 := Aside0.mk ((HI.out.drewN 1).below hb); have HB3 := Aside0.mk (below_step (below_drew1 HB1.out) hb); have HK3 := Aside0.mk (KeepBut.trans (keep_drew HK.out) (KeepBut.of_below hb g v.ownBlock) (.inl rfl)); obtain ⟨A1, c1, rfl, hC⟩ := R_form hO; have RC := Aside0.mk hC; have kc3 : w3.cell? ⟨g, 0, none⟩ = some v1 := (blk_cell HI3.out.1 0).trans rfl; have kf3 := blk_frozen HI3.out.1 0; clear hO hb hC)))
  all_goals
    first | go_end0 | ((try simp only [Exit.inBlock, Exit.then]); refine bodyPost_ret (results_none rfl _ _ _) rfl ?_)
    exact ⟨rfl, _, IsV.stored BK2.out HI.out.2.1 O2.out (by simp) (by rw [encs_append]), below_set HB4.out HI.out.2.1, HK4.out.set_ _ _, HV4.out⟩

/-- What Align leaves of a writer's parts. -/
def alW (B : List Int) (last n : Int) : List Int × Int × Int := if 0 < n then (B ++ [last % 256], 0, 0) else (B, last, n)
set_option maxHeartbeats 1600000 in
set_option maxRecDepth 100000 in
/-- bits.Writer.Align. -/
theorem walign_walk (g : Nat) (v : Value) (B : List Int) (last n : Int) (w0 w : World) (hI : IsW w0 w g v B last n) (hBe : Below w0.heap.size w0 w) (hl0 : 0 ≤ last) (hl1 : last < 256) (hBl : B.length ≤ 1000000000) :
    Calls Try.prog 24 #[.pointer (some ⟨g, 0, none⟩)] w fun e w' => e = .returned (.tuple #[]) ∧ PutPost w0 w g v (alW B last n) w' := by
  obtain ⟨i0, hi0, hz0, hz1, hz2⟩ := info_parts info5
  have HI := Aside0.mk hI
  have HB := Aside0.mk hBe
  have hc0 : w.cell? ⟨g, 0, none⟩ = some v := (blk_cell hI.1 0).trans rfl
  have hc1 : w.cell? ⟨g, 1, none⟩ = some (.int .u64 last) := (blk_cell hI.1 1).trans rfl
  have hc2 : w.cell? ⟨g, 2, none⟩ = some (.int .i64 n) := (blk_cell hI.1 2).trans rfl
  have hlt := blk_lt hI.1
  have hne := Aside0.mk hI.ne
  have e0 : IntKind.u8.wrap last = last % 256 := rfl
  clear hI hBe
  by_cases h0 : 0 < n
  · have d0 : decide (0 < n) = true := decide_eq_true h0
    have AW := Aside0.mk (show alW B last n = (B ++ [last % 256], 0, 0) from if_pos h0)
    go_enter Try.func24, Try.ntmps24
    go_wp2_with fail
    have hne0 := World.new_ne w ⟨g, 0, none⟩ hc0
    have hne1 := World.new_ne w ⟨g, 1, none⟩ hc1
    go_region_law
      ((refine step_append_vec (by rfl) _ _ _ (by rfl) w0.heap.size 5 i0 _ 1 1 Try.underlying43 hi0 hz0 hz1 hz2 rfl (by omega) v B.length (encs (Value.int .u8) B) (by rfl) ((HI.out.2.2.alloc _).drew) (some ⟨w.heap.size, 0, none⟩) 1 1 [.int .u8 (last % 256)] (by rfl) (by rfl) (fun _ => ⟨_, rfl, World.news_of_block (cs := #[.int .u8 (last % 256)]) (t := 5) (fr := (0, 0)) (heap_alloc_new w _)⟩) (by simp [Value.oneCell'])
              (by simp only [maxLen]; omega) (by omega) (by simp; have := below_size HB.out; omega) (w.heap.size + 1) (by simp) ?_; intro A2 c2 w1 hown1 hgrow hat; have BK1 := Aside0.mk (show w1.heap[g]? = some (.cells #[v, .int .u64 last, .int .i64 n] 81 (0, 0)) from (hgrow.block g (by simp; omega) (fun e => hne.out e.symm)).trans (blk_alloc HI.out.1 _)); have HB1 := Aside0.mk (show Below w0.heap.size w0 w1 from Below.grown (below_drew1 (below_alloc HB.out _)) hgrow (by simp; have := below_size HB.out; omega) (own_base HI.out.2.2)); have HK1 := Aside0.mk (show KeepBut w w1 g v.ownBlock from KeepBut.trans (keep_drew (keep_alloc2 (KeepBut.refl w g v.ownBlock) _)) (KeepBut.of_grown hgrow g) (.inl rfl)); have HV1 := Aside0.mk (own_alt2 (w := w) (wr := w) (v := v) (Nat.le_refl _) (.inl rfl) (Nat.le_succ _) hat); have HO1 := Aside0.mk hown1; clear hown1 hgrow hat; have hk0 : w1.cell? ⟨g, 0, none⟩ = some v := (blk_cell BK1.out 0).trans rfl; have hk1 : w1.cell? ⟨g, 1, none⟩ = some (.int .u64 last) := (blk_cell BK1.out 1).trans rfl; have hk2 : w1.cell? ⟨g, 2, none⟩ = some (.int .i64 n) := (blk_cell BK1.out 2).trans rfl; have hz_0 := blk_frozen BK1.out 0; have hz_1 := blk_frozen BK1.out 1; have hz_2 := blk_frozen BK1.out 2))
    all_goals
      go_wp2
      first | go_end0 | ((try simp only [Exit.inBlock, Exit.then]); refine bodyPost_ret (results_none rfl _ _ _) rfl ?_)
      rw [AW.out]
      exact ⟨rfl, _, IsW.set2 (IsW.set1 (IsW.set0 BK1.out HI.out.2.1 HO1.out (by simp) (by rw [encs_append]; rfl)) 0) 0, by repeat (first | exact HB1.out | refine below_set ?_ HI.out.2.1 | apply below_drew1), ((HK1.out.set_ _ _).set_ _ _).set_ _ _, HV1.out⟩
  · have d0 : decide (0 < n) = false := decide_eq_false h0
    have AW := Aside0.mk (show alW B last n = (B, last, n) from if_neg h0)
    go_enter Try.func24, Try.ntmps24
    go_wp2
    first | go_end0 | ((try simp only [Exit.inBlock, Exit.then]); refine bodyPost_ret (results_none rfl _ _ _) rfl ?_)
    rw [AW.out]
    exact ⟨rfl, _, HI.out, HB.out, KeepBut.refl w g _, .inl rfl⟩

set_option maxHeartbeats 1600000 in
set_option maxRecDepth 100000 in
/-- bits.Writer.Write. -/
theorem wwrite_walk (g : Nat) (v : Value) (B : List Int) (last n : Int) (S : ByteArray) (hS : S.size ≤ 1000) (w0 w : World) (hI : IsW w0 w g v B last n) (hBe : Below w0.heap.size w0 w) (hl0 : 0 ≤ last) (hl1 : last < 256) (hBl : B.length ≤ 100000000) :
    Calls Try.prog 25 #[.pointer (some ⟨g, 0, none⟩), .string S] w fun e w' => e = .returned (.tuple #[]) ∧ PutPost w0 w g v ((alW B last n).1 ++ bytesOf S, (alW B last n).2) w' := by
  obtain ⟨i0, hi0, hz0, hz1, hz2⟩ := info_parts info5
  have AL := Aside0.mk (walign_walk g v B last n w0 w hI hBe hl0 hl1 (by omega))
  have hbl : (alW B last n).1.length ≤ B.length + 1 := by unfold alW; split <;> simp
  obtain ⟨r, hr⟩ : ∃ r, alW B last n = r := ⟨_, rfl⟩
  rw [hr] at AL hbl ⊢
  obtain ⟨L, l1, n1⟩ := r
  have LL := Aside0.mk (show L.length ≤ 100000001 from Nat.le_trans hbl (by omega))
  have hsc : encs (Value.int .u8) (bytesOf S) = Lib.strCells S := by simp [encs, bytesOf, Lib.strCells]
  have SC := Aside0.mk hsc
  clear hI hBe hbl hr hsc
  go_enter Try.func25, Try.ntmps25
  go_wp2_with fail
  refine AL.out.mono ?_
  rintro e w1 ⟨rfl, v1, hI1, hB1, hK1, hV1⟩
  have HI := Aside0.mk hI1
  have HB1 := Aside0.mk hB1
  have HK := Aside0.mk hK1
  have HV := Aside0.mk hV1
  have hc0 : w1.cell? ⟨g, 0, none⟩ = some v1 := (blk_cell hI1.1 0).trans rfl
  have hlt0 := blk_lt hI1.1
  have hne := Aside0.mk hI1.ne
  clear hI1 hB1 hK1 hV1 AL
  go_wp2_with (first
    | (at_builtin; refine wpList_append_str (by rfl) (.tmp 12) (.tmp 13) 43 9 (by rfl) w0.heap.size 5 i0 Try.underlying43 Try.underlying9 hi0 hz0 hz1 hz2 v1 L.length (encs (Value.int .u8) L) (by rfl) HI.out.2.2 S (by rfl) (by have := LL.out; simp only [maxLen]; omega) (by have := LL.out; omega) (by have := below_size HB1.out; omega) w1.heap.size rfl ?_; intro A2 c2 w2 hown2 hgrow2 hat2; have O2 := Aside0.mk hown2; have BK2 := Aside0.mk (show w2.heap[g]? = some (.cells #[v1, .int .u64 l1, .int .i64 n1] 81 (0, 0)) from (hgrow2.block g hlt0 (fun e => hne.out e.symm)).trans HI.out.1); have HB2 := Aside0.mk (show Below w0.heap.size w0 w2 from Below.grown HB1.out hgrow2 (by have := below_size HB1.out; omega) (own_base HI.out.2.2)); have HK2 := Aside0.mk (show KeepBut w w2 g v.ownBlock from KeepBut.trans HK.out (KeepBut.of_grown hgrow2 g) HV.out); have HV2 := Aside0.mk (own_alt2 HK.out.1 HV.out (Nat.le_refl _) hat2); clear hown2 hgrow2 hat2; have kc0 := (blk_cell BK2.out 0).trans rfl; have kf0 := blk_frozen BK2.out 0))
  first | go_end0 | ((try simp only [Exit.inBlock, Exit.then]); refine bodyPost_ret (results_none rfl _ _ _) rfl ?_)
  exact ⟨rfl, _, IsW.set0 BK2.out HI.out.2.1 O2.out (by rw [List.length_append, bytesOf_length]) (by rw [encs_append, SC.out]), below_set HB2.out HI.out.2.1, HK2.out.set_ _ _, HV2.out⟩
end Go.Proofs.Ytndcfccbicognaa.XBitsReads
