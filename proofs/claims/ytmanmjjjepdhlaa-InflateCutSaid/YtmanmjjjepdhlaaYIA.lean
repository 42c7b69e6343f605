/- Several texts of this seat's proofs, joined: YInf1, YInf2, YInf3, YInf4, YInf5. It has no conditions. -/
import Derived.Test.YtmanmjjjepdhlaaYTabRead
import Derived.Test.YtmanmjjjepdhlaaYTok
import Derived.BigRegion
import Derived.RegionTactic
import Derived.ChangeAlike
import Derived.Deep.RegionWith
import Derived.Deep.RegionLaw
import Derived.Laws.Tables
import Derived.Deep.QuietTactic
import Derived.BigQuiet
import Derived.Deep.RegionHeld3
import Derived.Deep.AppendLies
import Derived.Deep.DrawnRows
import Derived.Laws.CopyOwn
import Derived.Deep.MidRow
import Derived.Laws.ResultCell
import Derived.ChangeKeysEq
import Derived.Laws.BitsAllLaws
namespace Go.Proofs.Ytmanmjjjepdhlaa.XPrefix
set_option linter.unusedVariables false
set_option linter.unusedSimpArgs false
open Go.RowKit Go.Proofs.YtmanmjjjepdhlaaW.PrintWords Go.Proofs.YtmanmjjjepdhlaaW.PrintLast Go.Proofs.YtmanmjjjepdhlaaW.PrintMore
attribute [local go_sem] max2_int min2_int max_two min_two max_three min_three max_four min_four


open XInflateAny XTok
/-- A reader of streams. -/
def IsX (w0 W : World) (g gr : Nat) (S : ByteArray) (p : Nat) (bad : Bool) (vo : Value) (out : List Int) (most : Int) (vk : Value) (ks : List Int) : Prop :=
  W.heap[g]? = some (.cells #[.pointer (some ⟨gr, 0, none⟩), vo, .int .i64 most, vk] 98 (0, 0)) ∧ w0.heap.size ≤ g ∧ IsS155 w0 W gr S (p : Int) bad ∧ W.ownsRow w0.heap.size 5 1 vo out.length (encs (Value.int .u8) out) ∧ W.ownsRow w0.heap.size 3 1 vk ks.length (encs (Value.int .i64) ks) ∧ Below w0.heap.size w0 W
theorem own_ne' {W : World} {g base e : Nat} {cs : Array Value} {v : Value} {n : Nat} {xs : List Value} {t : TypeId} (ho : W.ownsRow base e 1 v n xs) (hb : W.heap[g]? = some (.cells cs t (0, 0))) (hne : e ≠ t) : some g ≠ v.ownBlock := fun e1 => own_ne hb ho hne e1.symm
theorem IsX.below {w0 W W1 : World} {g gr : Nat} {S : ByteArray} {p : Nat} {bad : Bool} {vo vk : Value} {out ks : List Int} {most : Int} (h : IsX w0 W g gr S p bad vo out most vk ks) (hb : Below W.heap.size W W1) : IsX w0 W1 g gr S p bad vo out most vk ks := by
  obtain ⟨h1, h2, h3, h4, h5, h6⟩ := h
  exact ⟨blk_below h1 hb, h2, h3.below hb, own_move h4 (fun k hk => hb.block k (own_lt h4 k hk)), own_move h5 (fun k hk => hb.block k (own_lt h5 k hk)), below_step h6 hb⟩
/-- The bits' reader has gone on. -/
theorem IsX.reader {w0 W W1 : World} {g gr : Nat} {S : ByteArray} {p p2 : Nat} {bad bad2 : Bool} {vo vk : Value} {out ks : List Int} {most : Int} (h : IsX w0 W g gr S p bad vo out most vk ks) (hI : IsS155 w0 W1 gr S (p2 : Int) bad2) (hB : Below w0.heap.size w0 W1) (hk : KeepBut W W1 gr none) : IsX w0 W1 g gr S p2 bad2 vo out most vk ks := by
  obtain ⟨h1, h2, h3, h4, h5, h6⟩ := h
  exact ⟨hk.blk h1 (blk_ne h1 h3.1 (by decide)) (by simp), h2, hI, hk.own h4 (own_ne h3.1 h4 (by decide)) (by cases vo.ownBlock <;> simp), hk.own h5 (own_ne h3.1 h5 (by decide)) (by cases vk.ownBlock <;> simp), hB⟩

open XInflateAny XTok
/-- What the numbers of a text are, and its length. -/
def IsZ (S : ByteArray) (Z : Nat) : Prop := S.size ≤ 100000 ∧ ∀ i, i < S.size → bt S (i : Int) = ((Z / 256 ^ i % 256 : Nat) : Int)
set_option maxHeartbeats 800000 in
set_option maxRecDepth 100000 in
theorem number_ok (g gr : Nat) (S : ByteArray) (Z p n : Nat) (vo vk : Value) (out ks : List Int) (most : Int) (w0 w : World) (hX : IsX w0 w g gr S p false vo out most vk ks) (hZ : IsZ S Z) (hn : n ≤ 32) (hp : p + n ≤ 8 * S.size) :
    Calls Try.prog 118 #[.pointer (some ⟨g, 0, none⟩), .int .i64 n] w fun e w' => e = .returned (.tuple #[.int .i64 ((Z / 2 ^ p % 2 ^ n : Nat) : Int), .int .i64 0]) ∧ IsX w0 w' g gr S (p + n) false vo out most vk ks ∧ KeepBut w w' gr none := by
  obtain ⟨kk, hE⟩ := (reads S Z p n hn hp (by have := hZ.1; omega) hZ.2).rounds
  have h2 : Z / 2 ^ p % 2 ^ n < 2 ^ n := Nat.mod_lt _ (Nat.two_pow_pos n)
  have h3 : 2 ^ n ≤ 2 ^ 32 := Nat.pow_le_pow_right (by omega) hn
  obtain ⟨v, hv⟩ : ∃ v, Z / 2 ^ p % 2 ^ n = v := ⟨_, rfl⟩
  rw [hv] at hE h2 ⊢
  have hv1 : 0 ≤ (v : Int) := by omega
  have hv2 : (v : Int) < 4294967296 := by omega
  have HE := Aside0.mk hE
  have HX := Aside0.mk hX
  have hc0 := (blk_cell hX.1 0)
  clear hE hX hZ hv h2 h3 hn hp
  go_enter Try.func118, Try.ntmps118
  go_wp2_with fail
  refine (bits_Reader_Bits.calls kk gr S (p : Int) false n v S ((p + n : Nat) : Int) false w0 _ HX.out.2.2.1 HX.out.2.2.2.2.2 HE.out).mono ?_
  rintro e w1 ⟨rfl, hI, hB, hk⟩
  have HX1 := Aside0.mk (HX.out.reader hI hB hk)
  have HK1 := Aside0.mk hk
  clear hI hB hk HX hc0
  have hc1 := (blk_cell HX1.out.1 0)
  go_wp2_with fail
  refine (bits_Reader_Err.calls gr S ((p + n : Nat) : Int) false 0 S ((p + n : Nat) : Int) false w0 _ HX1.out.2.2.1 HX1.out.2.2.2.2.2 rfl).mono ?_
  rintro e w2 ⟨rfl, hI, hB, hk⟩
  have HX2 := Aside0.mk (HX1.out.reader hI hB hk)
  have HK2 := Aside0.mk (HK1.out.trans hk (.inl rfl))
  clear hI hB hk HX1 HK1 hc1
  go_wp2
  go_ret2
  exact ⟨rfl, HX2.out, HK2.out⟩
set_option maxHeartbeats 800000 in
set_option maxRecDepth 100000 in
theorem number_bad (g gr : Nat) (S : ByteArray) (p n : Nat) (bad : Bool) (vo vk : Value) (out ks : List Int) (most : Int) (w0 w : World) (hX : IsX w0 w g gr S p bad vo out most vk ks) (hS : S.size ≤ 100000) (hp : p ≤ 8 * S.size) (h : bad = true ∨ 8 * S.size < p + n) :
    Calls Try.prog 118 #[.pointer (some ⟨g, 0, none⟩), .int .i64 n] w fun e w' => e = .returned (.tuple #[.int .i64 0, .int .i64 3]) ∧ IsX w0 w' g gr S p true vo out most vk ks ∧ KeepBut w w' gr none := by
  have hE : ∃ kk, bits_Reader_Bits.f kk S (p : Int) bad n = some ((0 : Int), S, (p : Int), true) := by
    cases bad
    · exact (fails S p n hp (by omega) (.inr (.inr (by have h9 : 8 * S.size < p + n := h.resolve_left (by decide); omega)))).rounds
    · exact (dead S p n).rounds
  obtain ⟨kk, hE⟩ := hE
  have HE := Aside0.mk hE
  have HX := Aside0.mk hX
  have hc0 := (blk_cell hX.1 0)
  clear hE hX h hS hp
  go_enter Try.func118, Try.ntmps118
  go_wp2_with fail
  refine (bits_Reader_Bits.calls kk gr S (p : Int) bad n 0 S (p : Int) true w0 _ HX.out.2.2.1 HX.out.2.2.2.2.2 HE.out).mono ?_
  rintro e w1 ⟨rfl, hI, hB, hk⟩
  have HX1 := Aside0.mk (HX.out.reader hI hB hk)
  have HK1 := Aside0.mk hk
  clear hI hB hk HX hc0
  have hc1 := (blk_cell HX1.out.1 0)
  go_wp2_with fail
  refine (bits_Reader_Err.calls gr S (p : Int) true 3 S (p : Int) true w0 _ HX1.out.2.2.1 HX1.out.2.2.2.2.2 rfl).mono ?_
  rintro e w2 ⟨rfl, hI, hB, hk⟩
  have HX2 := Aside0.mk (HX1.out.reader hI hB hk)
  have HK2 := Aside0.mk (HK1.out.trans hk (.inl rfl))
  clear hI hB hk HX1 HK1 hc1
  go_wp2
  go_ret2
  exact ⟨rfl, HX2.out, HK2.out⟩

open XInflateAny XTok
/-! What a stream says, as numbers: Z are the bits, M how many, p where the next one is. -/
noncomputable def kS (l : List Int) : Int := Classical.choose (KRes.some l)
noncomputable def eS (l : List Int) : Int := Classical.choose (Classical.choose_spec (KRes.some l))
theorem kS_spec (l : List Int) : KRes l (kS l) (eS l) := Classical.choose_spec (Classical.choose_spec (KRes.some l))
theorem kS_of {l : List Int} {k e : Int} (h : KRes l k e) : kS l = k ∧ eS l = e := (kS_spec l).same h
def storedS2 (Z M : Nat) (most : Int) (q : Nat) (out : List Int) (n m : Nat) : Except Int (Nat × List Int) :=
  if m + n ≠ 65535 then .error 2 else if most < (out.length : Int) + n then .error 7 else if M < q + 8 * n then .error 3 else .ok (q + 8 * n, out ++ by8 (Z / 2 ^ q % 2 ^ (8 * n)) n)
def storedS (Z M : Nat) (most : Int) (p : Nat) (out : List Int) : Except Int (Nat × List Int) :=
  if M < (p + 7) / 8 * 8 + 32 then .error 3 else storedS2 Z M most ((p + 7) / 8 * 8 + 32) out (Z / 2 ^ ((p + 7) / 8 * 8) % 2 ^ 16) (Z / 2 ^ ((p + 7) / 8 * 8 + 16) % 2 ^ 16)
def againB (s : Int) : Nat := if s = 16 then 2 else if s = 17 then 3 else 7
def againC (s : Int) : Nat := if s = 17 ∨ s = 16 then 3 else 11
/-- A row of n lengths. -/
noncomputable def rowS (l1 : List Int) (Z M n : Nat) : Nat → List Int → Nat → Except Int (List Int × Nat)
  | 0, out, p => .ok (out, p)
  | f + 1, out, p => if n ≤ out.length then .ok (out, p) else
    if (readA l1 (kS l1) Z M p).2.1 ≠ 0 then .error (readA l1 (kS l1) Z M p).2.1 else
    if (readA l1 (kS l1) Z M p).1 < 16 then rowS l1 Z M n f (out ++ [(readA l1 (kS l1) Z M p).1]) (readA l1 (kS l1) Z M p).2.2.1 else
    if (readA l1 (kS l1) Z M p).1 = 16 ∧ out.length = 0 then .error 2 else
    if M < (readA l1 (kS l1) Z M p).2.2.1 + againB (readA l1 (kS l1) Z M p).1 then .error 3 else
    if n < out.length + (Z / 2 ^ (readA l1 (kS l1) Z M p).2.2.1 % 2 ^ againB (readA l1 (kS l1) Z M p).1 + againC (readA l1 (kS l1) Z M p).1) then .error 2 else
    rowS l1 Z M n f (out ++ List.replicate (Z / 2 ^ (readA l1 (kS l1) Z M p).2.2.1 % 2 ^ againB (readA l1 (kS l1) Z M p).1 + againC (readA l1 (kS l1) Z M p).1) (if (readA l1 (kS l1) Z M p).1 = 16 then rd out ((out.length : Int) - 1) else 0)) ((readA l1 (kS l1) Z M p).2.2.1 + againB (readA l1 (kS l1) Z M p).1)
def ordL : List Int := [16, 17, 18, 0, 8, 7, 9, 6, 10, 5, 11, 4, 12, 3, 13, 2, 14, 1, 15]
/-- The first code's lengths, when i of them are read. -/
def firstL (Z p : Nat) : Nat → List Int
  | 0 => List.replicate 19 0
  | i + 1 => (firstL Z p i).set (rd ordL (i : Int)).toNat ((Z / 2 ^ (p + 3 * i) % 2 ^ 3 : Nat) : Int)
noncomputable def ownS3 (a : Nat) (R : Except Int (List Int × Nat)) : Except Int (List Int × List Int × Nat) :=
  match R with
  | .error e => .error e
  | .ok (l, p) => if rd l 256 = 0 then .error 2 else if eS (l.take a) ≠ 0 ∨ eS (l.drop a) ≠ 0 then .error 10 else .ok (l.take a, l.drop a, p)
noncomputable def ownS2 (Z M p a b c : Nat) : Except Int (List Int × List Int × Nat) :=
  if 286 < a ∨ 30 < b then .error 2 else if M < p + 3 * c then .error 3 else
  if eS (firstL Z p c) ≠ 0 ∨ kS (firstL Z p c) = 2 then .error 10 else ownS3 a (rowS (firstL Z p c) Z M (a + b) (a + b + 1) [] (p + 3 * c))
noncomputable def ownS (Z M p : Nat) : Except Int (List Int × List Int × Nat) :=
  if M < p + 14 then .error 3 else ownS2 Z M (p + 14) (Z / 2 ^ p % 2 ^ 5 + 257) (Z / 2 ^ (p + 5) % 2 ^ 5 + 1) (Z / 2 ^ (p + 10) % 2 ^ 4 + 4)
def lenB (s : Int) : Nat := bitsL (s - 257).toNat
def lenV (s : Int) (m : Nat) : Int := if (saysL s m).2 = true then (saysL s m).1 else 258
def lenS (Z M : Nat) (s : Int) (p : Nat) : Except Int (Int × Nat) :=
  if 286 ≤ s then .error 2 else if M < p + lenB s then .error 3 else .ok (lenV s (Z / 2 ^ p % 2 ^ lenB s), p + lenB s)
noncomputable def distS (lb : List Int) (Z M p : Nat) : Except Int (Int × Nat) :=
  if (readA lb (kS lb) Z M p).2.1 ≠ 0 then .error (readA lb (kS lb) Z M p).2.1 else
  if 30 ≤ (readA lb (kS lb) Z M p).1 then .error 2 else
  if M < (readA lb (kS lb) Z M p).2.2.1 + bitsD (readA lb (kS lb) Z M p).1.toNat then .error 3 else
  .ok ((saysD (readA lb (kS lb) Z M p).1 ((Z / 2 ^ (readA lb (kS lb) Z M p).2.2.1 % 2 ^ bitsD (readA lb (kS lb) Z M p).1.toNat : Nat) : Int)).1, (readA lb (kS lb) Z M p).2.2.1 + bitsD (readA lb (kS lb) Z M p).1.toNat)
def copyS (far : Nat) : Nat → List Int → List Int
  | 0, out => out
  | n + 1, out => copyS far n (out ++ [rd out ((out.length : Int) - far)])
noncomputable def backS (lb : List Int) (Z M : Nat) (most : Int) (s : Int) (p : Nat) (out : List Int) : Except Int (Nat × List Int) :=
  match lenS Z M s p with
  | .error e => .error e
  | .ok (n, q) => match distS lb Z M q with
    | .error e => .error e
    | .ok (far, r) => if (out.length : Int) < far then .error 2 else if most < (out.length : Int) + n then .error 7 else .ok (r, copyS far.toNat n.toNat out)
noncomputable def codedS (la lb : List Int) (Z M : Nat) (most : Int) : Nat → Nat → List Int → Except Int (Nat × List Int)
  | 0, p, out => .ok (p, out)
  | f + 1, p, out =>
    if (readA la (kS la) Z M p).2.1 ≠ 0 then .error (readA la (kS la) Z M p).2.1 else
    if (readA la (kS la) Z M p).1 = 256 then .ok ((readA la (kS la) Z M p).2.2.1, out) else
    if 256 < (readA la (kS la) Z M p).1 then (match backS lb Z M most (readA la (kS la) Z M p).1 (readA la (kS la) Z M p).2.2.1 out with
      | .error e => .error e
      | .ok (q, o2) => codedS la lb Z M most f q o2) else
    if most ≤ (out.length : Int) then .error 7 else codedS la lb Z M most f (readA la (kS la) Z M p).2.2.1 (out ++ [(readA la (kS la) Z M p).1])
def fixA : List Int := List.replicate 144 8 ++ List.replicate 112 9 ++ List.replicate 24 7 ++ List.replicate 8 8
def fixB : List Int := List.replicate 32 5
noncomputable def bodyS (Z M : Nat) (most : Int) (kind p : Nat) (out : List Int) : Except Int (Nat × List Int) :=
  if kind = 0 then storedS Z M most p out else if kind = 1 then codedS fixA fixB Z M most (M + 1) p out else if kind = 2 then (match ownS Z M p with
    | .error e => .error e
    | .ok (a, b, q) => codedS a b Z M most (M + 1) q out) else .error 2
noncomputable def streamS (Z M : Nat) (most : Int) : Nat → Nat → List Int → List Int → Except Int (Nat × List Int × List Int)
  | 0, p, out, ks => .ok (p, out, ks)
  | f + 1, p, out, ks => if M < p + 3 then .error 3 else (match bodyS Z M most (Z / 2 ^ (p + 1) % 2 ^ 2) (p + 3) out with
    | .error e => .error e
    | .ok (q, o2) => if Z / 2 ^ p % 2 ^ 1 = 1 then .ok (q, o2, ks ++ [((Z / 2 ^ (p + 1) % 2 ^ 2 : Nat) : Int)]) else streamS Z M most f q o2 (ks ++ [((Z / 2 ^ (p + 1) % 2 ^ 2 : Nat) : Int)]))



open XInflateAny XTok
theorem lenB_le (s : Int) (h0 : 257 ≤ s) (h1 : s < 286) : lenB s ≤ 5 := by
  obtain ⟨_, _, _, _, h, _⟩ := rowsL_of (s - 257).toNat (by omega)
  exact h
theorem lenB_is (s : Int) (h0 : 257 ≤ s) (h1 : s < 286) : (if 264 < s ∧ s < 285 then Int.tdiv (s - 261) 4 else 0) = (lenB s : Int) := by
  obtain ⟨q, hq⟩ : ∃ q : Nat, s = 257 + q := ⟨(s - 257).toNat, by omega⟩
  have h := bitsL_at ⟨q, by omega⟩
  subst hq
  unfold lenB
  rw [show (257 + (q : Int) - 257).toNat = q from by omega, ← h]
  show _ = (((if 264 < 257 + q ∧ 257 + q < 285 then (257 + q - 261) / 4 else 0) : Nat) : Int)
  by_cases h2 : 264 < 257 + q ∧ 257 + q < 285
  · rw [if_pos h2, if_pos (by omega), Int.tdiv_eq_ediv_of_nonneg (by omega)]; omega
  · rw [if_neg h2, if_neg (by omega)]; rfl
set_option maxHeartbeats 1600000 in
set_option maxRecDepth 100000 in
theorem length_ok (g gr : Nat) (S : ByteArray) (Z p : Nat) (s : Int) (n : Int) (q : Nat) (vo vk : Value) (out ks : List Int) (most : Int) (w0 w : World) (hX : IsX w0 w g gr S p false vo out most vk ks) (hZ : IsZ S Z) (hs : 256 < s) (h : lenS Z (8 * S.size) s p = .ok (n, q)) :
    Calls Try.prog 156 #[.pointer (some ⟨g, 0, none⟩), .int .i64 s] w fun e w' => e = .returned (.tuple #[.int .i64 n, .int .i64 0]) ∧ IsX w0 w' g gr S q false vo out most vk ks ∧ KeepBut w w' gr none := by
  unfold lenS at h
  by_cases h1 : 286 ≤ s
  · rw [if_pos h1] at h; cases h
  rw [if_neg h1] at h
  by_cases h2 : 8 * S.size < p + lenB s
  · rw [if_pos h2] at h; cases h
  rw [if_neg h2] at h
  obtain ⟨rfl, rfl⟩ : lenV s (Z / 2 ^ p % 2 ^ lenB s) = n ∧ p + lenB s = q := by injection h with h; injection h with h3 h4; exact ⟨h3, h4⟩
  have hb5 := lenB_le s (by omega) (by omega)
  have his := lenB_is s (by omega) (by omega)
  have hnum := number_ok g gr S Z p (lenB s) vo vk out ks most w0 w hX hZ (by omega) (by omega)
  obtain ⟨m, hm⟩ : ∃ m, Z / 2 ^ p % 2 ^ lenB s = m := ⟨_, rfl⟩
  rw [hm] at hnum ⊢
  obtain ⟨kk, hk⟩ := (lengthOf s (m : Int)).rounds
  obtain ⟨v, b, hv⟩ : ∃ v b, saysL s (m : Int) = (v, b) := ⟨_, _, rfl⟩
  have hV : lenV s m = if b = true then v else 258 := by unfold lenV; rw [hv]
  rw [hV]
  rw [hv] at hk
  have HK := Aside0.mk hk
  have HN := Aside0.mk hnum
  have HIS := Aside0.mk his
  clear hm hk hnum hV hv hX hZ h h2 his
  obtain ⟨nb, hnb⟩ : ∃ nb : Nat, lenB s = nb := ⟨_, rfl⟩
  rw [hnb] at HIS HN hb5 ⊢
  have HNB := Aside0.mk hnb
  clear hnb
  have d0 : decide (286 ≤ s) = false := decide_eq_false (by omega)
  have hfin : ∀ (x : World) (e : Ending) (w' : World), True := fun _ _ _ => trivial
  clear hfin
  by_cases c1 : 264 < s
  · have d1 : decide (264 < s) = true := decide_eq_true c1
    by_cases c2 : s < 285
    · have d2 : decide (s < 285) = true := decide_eq_true c2
      have HD := Aside0.mk (show Int.tdiv (s - 261) 4 = (nb : Int) by have := HIS.out; rwa [if_pos ⟨c1, c2⟩] at this)
      have hd := HD.out
      have hd' : (s - 261) / 4 = (nb : Int) := by rw [← Int.tdiv_eq_ediv_of_nonneg (by omega)]; exact hd
      clear HD HIS
      go_enter Try.func156, Try.ntmps156
      go_wp2_with fail
      refine HN.out.mono ?_
      rintro e w1 ⟨rfl, hX1, hk1⟩
      have HX1 := Aside0.mk hX1
      have HK1 := Aside0.mk hk1
      clear hX1 hk1 HN
      go_wp2_with fail
      refine (token_LengthOf.calls kk s m v b _ HK.out).mono ?_
      rintro e w2 ⟨rfl, hb⟩
      have HX2 := Aside0.mk (HX1.out.below hb)
      have HK2 := Aside0.mk (HK1.out.trans (KeepBut.of_below hb gr none) (.inl rfl))
      clear hb HX1 HK1
      cases b
      · go_wp2
        go_ret2
        exact ⟨rfl, HX2.out, HK2.out⟩
      · go_wp2
        go_ret2
        exact ⟨rfl, HX2.out, HK2.out⟩
    · have d2 : decide (s < 285) = false := decide_eq_false c2
      obtain rfl : nb = 0 := by have := HIS.out; rw [if_neg (by omega)] at this; omega
      have HN := Aside0.mk (show Calls Try.prog 118 #[.pointer (some ⟨g, 0, none⟩), .int .i64 0] w _ from HN.out)
      clear HIS
      go_enter Try.func156, Try.ntmps156
      go_wp2_with fail
      refine HN.out.mono ?_
      rintro e w1 ⟨rfl, hX1, hk1⟩
      have HX1 := Aside0.mk hX1
      have HK1 := Aside0.mk hk1
      clear hX1 hk1 HN
      go_wp2_with fail
      refine (token_LengthOf.calls kk s m v b _ HK.out).mono ?_
      rintro e w2 ⟨rfl, hb⟩
      have HX2 := Aside0.mk (HX1.out.below hb)
      have HK2 := Aside0.mk (HK1.out.trans (KeepBut.of_below hb gr none) (.inl rfl))
      clear hb HX1 HK1
      cases b
      · go_wp2
        go_ret2
        exact ⟨rfl, HX2.out, HK2.out⟩
      · go_wp2
        go_ret2
        exact ⟨rfl, HX2.out, HK2.out⟩
  · have d1 : decide (264 < s) = false := decide_eq_false c1
    obtain rfl : nb = 0 := by have := HIS.out; rw [if_neg (by omega)] at this; omega
    have HN := Aside0.mk (show Calls Try.prog 118 #[.pointer (some ⟨g, 0, none⟩), .int .i64 0] w _ from HN.out)
    clear HIS
    go_enter Try.func156, Try.ntmps156
    go_wp2_with fail
    refine HN.out.mono ?_
    rintro e w1 ⟨rfl, hX1, hk1⟩
    have HX1 := Aside0.mk hX1
    have HK1 := Aside0.mk hk1
    clear hX1 hk1 HN
    go_wp2_with fail
    refine (token_LengthOf.calls kk s m v b _ HK.out).mono ?_
    rintro e w2 ⟨rfl, hb⟩
    have HX2 := Aside0.mk (HX1.out.below hb)
    have HK2 := Aside0.mk (HK1.out.trans (KeepBut.of_below hb gr none) (.inl rfl))
    clear hb HX1 HK1
    cases b
    · go_wp2
      go_ret2
      exact ⟨rfl, HX2.out, HK2.out⟩
    · go_wp2
      go_ret2
      exact ⟨rfl, HX2.out, HK2.out⟩

set_option maxHeartbeats 1600000 in
set_option maxRecDepth 100000 in
theorem length_err (g gr : Nat) (S : ByteArray) (Z p : Nat) (s : Int) (er : Int) (vo vk : Value) (out ks : List Int) (most : Int) (w0 w : World) (hX : IsX w0 w g gr S p false vo out most vk ks) (hZ : IsZ S Z) (hs : 256 < s) (hp : p ≤ 8 * S.size) (h : lenS Z (8 * S.size) s p = .error er) :
    Calls Try.prog 156 #[.pointer (some ⟨g, 0, none⟩), .int .i64 s] w fun e w' => e = .returned (.tuple #[.int .i64 0, .int .i64 er]) ∧ Below w0.heap.size w0 w' ∧ er ≠ 0 := by
  unfold lenS at h
  by_cases h1 : 286 ≤ s
  · rw [if_pos h1] at h
    obtain rfl : 2 = er := by injection h
    have d0 : decide (286 ≤ s) = true := decide_eq_true h1
    have HB := Aside0.mk hX.2.2.2.2.2
    clear h hX
    go_enter Try.func156, Try.ntmps156
    go_wp2
    go_ret2
    exact ⟨rfl, HB.out, by decide⟩
  rw [if_neg h1] at h
  by_cases h2 : 8 * S.size < p + lenB s
  · rw [if_pos h2] at h
    obtain rfl : 3 = er := by injection h
    have his := lenB_is s (by omega) (by omega)
    have hnum := number_bad g gr S p (lenB s) false vo vk out ks most w0 w hX hZ.1 hp (.inr h2)
    have HN := Aside0.mk hnum
    have HIS := Aside0.mk his
    clear hnum hX hZ h h2 his
    obtain ⟨nb, hnb⟩ : ∃ nb : Nat, lenB s = nb := ⟨_, rfl⟩
    rw [hnb] at HIS HN
    have HNB := Aside0.mk hnb
    clear hnb
    have d0 : decide (286 ≤ s) = false := decide_eq_false (by omega)
    by_cases c1 : 264 < s
    · have d1 : decide (264 < s) = true := decide_eq_true c1
      by_cases c2 : s < 285
      · have d2 : decide (s < 285) = true := decide_eq_true c2
        have HD := Aside0.mk (show Int.tdiv (s - 261) 4 = (nb : Int) by have := HIS.out; rwa [if_pos ⟨c1, c2⟩] at this)
        have hd := HD.out
        have hd' : (s - 261) / 4 = (nb : Int) := by rw [← Int.tdiv_eq_ediv_of_nonneg (by omega)]; exact hd
        clear HD HIS
        go_enter Try.func156, Try.ntmps156
        go_wp2_with fail
        refine HN.out.mono ?_
        rintro e w1 ⟨rfl, hX1, hk1⟩
        have HX1 := Aside0.mk hX1
        clear hX1 hk1 HN
        go_wp2
        go_ret2
        exact ⟨rfl, HX1.out.2.2.2.2.2, by decide⟩
      · have d2 : decide (s < 285) = false := decide_eq_false c2
        obtain rfl : nb = 0 := by have := HIS.out; rw [if_neg (by omega)] at this; omega
        have HN := Aside0.mk (show Calls Try.prog 118 #[.pointer (some ⟨g, 0, none⟩), .int .i64 0] w _ from HN.out)
        clear HIS
        go_enter Try.func156, Try.ntmps156
        go_wp2_with fail
        refine HN.out.mono ?_
        rintro e w1 ⟨rfl, hX1, hk1⟩
        have HX1 := Aside0.mk hX1
        clear hX1 hk1 HN
        go_wp2
        go_ret2
        exact ⟨rfl, HX1.out.2.2.2.2.2, by decide⟩
    · have d1 : decide (264 < s) = false := decide_eq_false c1
      obtain rfl : nb = 0 := by have := HIS.out; rw [if_neg (by omega)] at this; omega
      have HN := Aside0.mk (show Calls Try.prog 118 #[.pointer (some ⟨g, 0, none⟩), .int .i64 0] w _ from HN.out)
      clear HIS
      go_enter Try.func156, Try.ntmps156
      go_wp2_with fail
      refine HN.out.mono ?_
      rintro e w1 ⟨rfl, hX1, hk1⟩
      have HX1 := Aside0.mk hX1
      clear hX1 hk1 HN
      go_wp2
      go_ret2
      exact ⟨rfl, HX1.out.2.2.2.2.2, by decide⟩
  · rw [if_neg h2] at h; cases h


open XInflateAny XTok
theorem arg_eq {P : Program} {f : FuncId} {a : Value} {x y : Int} {k : IntKind} {W : World} {R : Ending → World → Prop} (h : x = y) (hc : Calls P f #[a, .int k y] W R) : Calls P f #[a, .int k x] W R := by rw [h]; exact hc
theorem readA_sym {l : List Int} {kd : Int} (h : KRes l kd 0) (Z M p : Nat) (h0 : (readA l kd Z M p).2.1 = 0) : ∃ j : Nat, (readA l kd Z M p).1 = j ∧ j < l.length := by
  have key : ∀ (d k : Nat) (n : Int) (p : Nat), k + d = 15 → nx (cnt l l.length) (k + 1) ≤ 2 * n → (readK l kd (bitZ Z) M d k n p).2.1 = 0 → ∃ j : Nat, (readK l kd (bitZ Z) M d k n p).1 = j ∧ j < l.length := by
    intro d
    induction d with
    | zero => intro k n p hk hn h; exact absurd h (by show ¬ (10 : Int) = 0; decide)
    | succ d ih =>
      intro k n p hk hn h
      rw [readK] at h ⊢
      have hb : bitZ Z p = 0 ∨ bitZ Z p = 1 := by unfold bitZ; omega
      by_cases h1 : M ≤ p
      · rw [if_pos h1] at h; exact absurd h (by show ¬ (3 : Int) = 0; decide)
      · rw [if_neg h1] at h ⊢
        by_cases h2 : 2 * n + bitZ Z p - nx (cnt l l.length) (k + 1) < cnt l l.length (k + 1)
        · rw [if_pos h2]
          obtain ⟨j, g1, g2, g3, g4⟩ := sym_of l k (2 * n + bitZ Z p) (by omega) h2 (by omega)
          dsimp only
          exact ⟨j, g4, g1⟩
        · rw [if_neg h2] at h ⊢
          by_cases h3 : kd = 1
          · rw [if_pos h3] at h; exact absurd h (by show ¬ (10 : Int) = 0; decide)
          · rw [if_neg h3] at h ⊢
            exact ih (k + 1) (2 * n + bitZ Z p) (p + 1) (by omega) (by rw [nx]; omega) h
  unfold readA at h0 ⊢
  by_cases h2 : kd = 2
  · rw [if_pos h2] at h0; exact absurd h0 (by show ¬ (10 : Int) = 0; decide)
  · rw [if_neg h2] at h0 ⊢
    exact key 15 0 0 p rfl (by simp [nx]) h0
set_option maxHeartbeats 1600000 in
set_option maxRecDepth 100000 in
theorem distance_ok (base gt g gr : Nat) (lb : List Int) (kd : Int) (S : ByteArray) (Z p : Nat) (far : Int) (q : Nat) (vo vk : Value) (out ks : List Int) (most : Int) (w0 w : World) (hX : IsX w0 w g gr S p false vo out most vk ks) (hT : IsT base w gt lb kd) (hK : KRes lb kd 0) (hZ : IsZ S Z) (hp : p ≤ 8 * S.size) (h : distS lb Z (8 * S.size) p = .ok (far, q)) :
    Calls Try.prog 157 #[.pointer (some ⟨g, 0, none⟩), .pointer (some ⟨gt, 0, none⟩)] w fun e w' => e = .returned (.tuple #[.int .i64 far, .int .i64 0]) ∧ IsX w0 w' g gr S q false vo out most vk ks ∧ KeepBut w w' gr none := by
  have hrd := read_all base gt gr lb kd p Z S w0 w hT hX.2.2.1 hX.2.2.2.2.2 hp hZ.1 hK.okl.1 hZ.2
  have hsy := readA_sym hK Z (8 * S.size) p
  have hle := readA_le lb kd Z (8 * S.size) p hp
  unfold distS at h
  rw [(kS_of hK).1] at h
  obtain ⟨R, hR⟩ : ∃ R, readA lb kd Z (8 * S.size) p = R := ⟨_, rfl⟩
  rw [hR] at hrd hsy hle h
  obtain ⟨s, er, p2, bad⟩ := R
  change (if er ≠ 0 then Except.error er else if 30 ≤ s then .error 2 else if 8 * S.size < p2 + bitsD s.toNat then .error 3 else .ok ((saysD s ((Z / 2 ^ p2 % 2 ^ bitsD s.toNat : Nat) : Int)).1, p2 + bitsD s.toNat)) = .ok (far, q) at h
  by_cases h1 : er ≠ 0
  · rw [if_pos h1] at h; cases h
  rw [if_neg h1] at h
  obtain rfl : er = 0 := by omega
  by_cases h2 : 30 ≤ s
  · rw [if_pos h2] at h; cases h
  rw [if_neg h2] at h
  by_cases h3 : 8 * S.size < p2 + bitsD s.toNat
  · rw [if_pos h3] at h; cases h
  rw [if_neg h3] at h
  obtain ⟨j, hj, _⟩ := hsy rfl
  obtain rfl : s = (j : Int) := hj
  rw [Int.toNat_natCast] at h h3
  obtain ⟨rfl, rfl⟩ : (saysD (j : Int) ((Z / 2 ^ p2 % 2 ^ bitsD j : Nat) : Int)).1 = far ∧ p2 + bitsD j = q := by injection h with h; injection h with h4 h5; exact ⟨h4, h5⟩
  obtain rfl : bad = false := (hle.2 rfl).1
  have hb13 : bitsD j ≤ 13 := by obtain ⟨_, _, _, _, h, _⟩ := rowsD_of j (by omega); exact h
  have hbm := bitsD_at ⟨j, by omega⟩
  change max ((j : Int) / 2 - 1) 0 = (bitsD j : Int) at hbm
  have hN : ∀ W, IsX w0 W g gr S p2 false vo out most vk ks → _ := fun W hX => number_ok g gr S Z p2 (bitsD j) vo vk out ks most w0 W hX hZ (by omega) (by omega)
  obtain ⟨m, hm⟩ : ∃ m, Z / 2 ^ p2 % 2 ^ bitsD j = m := ⟨_, rfl⟩
  rw [hm] at hN ⊢
  obtain ⟨kk, hk⟩ := (distanceOf (j : Int) (m : Int)).rounds
  obtain ⟨v, b, hv⟩ : ∃ v b, saysD (j : Int) (m : Int) = (v, b) := ⟨_, _, rfl⟩
  rw [hv] at hk ⊢
  obtain ⟨nb, hnb⟩ : ∃ nb : Nat, bitsD j = nb := ⟨_, rfl⟩
  rw [hnb] at hN hbm hb13 ⊢
  have HK := Aside0.mk hk
  have HN := Aside0.mk hN
  have HX := Aside0.mk hX
  have HRD := Aside0.mk hrd
  have hmx : mx ((j : Int) / 2 - 1) 0 = (nb : Int) := by rw [← hbm]; unfold mx; omega
  have hc0 := blk_cell hX.1 0
  have d0 : decide ((30 : Int) ≤ (j : Int)) = false := decide_eq_false (by omega)
  have j0 : (j : Int) < 30 := by omega
  clear hm hk hv hX hrd hle hsy h1 h3 h hT hK hZ hbm hN hnb
  go_enter Try.func157, Try.ntmps157
  go_wp2_with fail
  refine HRD.out.mono ?_
  rintro e w1 ⟨rfl, hI, hB, hk1⟩
  have HX1 := Aside0.mk (HX.out.reader hI hB hk1)
  have HK1 := Aside0.mk hk1
  clear hI hB hk1 HX HRD hc0
  go_wp2_with fail
  all_goals
    refine (arg_eq (y := (nb : Int)) (by unfold mx at hmx; split at hmx <;> omega) (HN.out _ HX1.out)).mono ?_
    rintro e w2 ⟨rfl, hX2, hk2⟩
    have HX2 := Aside0.mk hX2
    have HK2 := Aside0.mk (HK1.out.trans hk2 (.inl rfl))
    clear hX2 hk2 HX1 HK1 HN hmx
    go_wp2_with fail
    refine (token_DistanceOf.calls kk j m v b _ HK.out).mono ?_
    rintro e w3 ⟨rfl, hb⟩
    have HX3 := Aside0.mk (HX2.out.below hb)
    have HK3 := Aside0.mk (HK2.out.trans (KeepBut.of_below hb gr none) (.inl rfl))
    clear hb HX2 HK2
    go_wp2
    go_ret2
    exact ⟨rfl, HX3.out, HK3.out⟩


set_option maxHeartbeats 1600000 in
set_option maxRecDepth 100000 in
theorem distance_err (base gt g gr : Nat) (lb : List Int) (kd : Int) (S : ByteArray) (Z p : Nat) (er : Int) (vo vk : Value) (out ks : List Int) (most : Int) (w0 w : World) (hX : IsX w0 w g gr S p false vo out most vk ks) (hT : IsT base w gt lb kd) (hK : KRes lb kd 0) (hZ : IsZ S Z) (hp : p ≤ 8 * S.size) (h : distS lb Z (8 * S.size) p = .error er) :
    Calls Try.prog 157 #[.pointer (some ⟨g, 0, none⟩), .pointer (some ⟨gt, 0, none⟩)] w fun e w' => e = .returned (.tuple #[.int .i64 0, .int .i64 er]) ∧ Below w0.heap.size w0 w' ∧ er ≠ 0 := by
  have hrd := read_all base gt gr lb kd p Z S w0 w hT hX.2.2.1 hX.2.2.2.2.2 hp hZ.1 hK.okl.1 hZ.2
  have hsy := readA_sym hK Z (8 * S.size) p
  have hle := readA_le lb kd Z (8 * S.size) p hp
  unfold distS at h
  rw [(kS_of hK).1] at h
  obtain ⟨R, hR⟩ : ∃ R, readA lb kd Z (8 * S.size) p = R := ⟨_, rfl⟩
  rw [hR] at hrd hsy hle h
  obtain ⟨s, er1, p2, bad⟩ := R
  change (if er1 ≠ 0 then Except.error er1 else if 30 ≤ s then .error 2 else if 8 * S.size < p2 + bitsD s.toNat then .error 3 else .ok ((saysD s ((Z / 2 ^ p2 % 2 ^ bitsD s.toNat : Nat) : Int)).1, p2 + bitsD s.toNat)) = .error er at h
  have HX := Aside0.mk hX
  have HRD := Aside0.mk hrd
  have hc0 := blk_cell hX.1 0
  by_cases h1 : er1 ≠ 0
  · rw [if_pos h1] at h
    obtain rfl : er1 = er := by injection h
    have e0 : (er1 == 0) = false := beq_eq_false_iff_ne.mpr h1
    have e1 : (er1 != 0) = true := bne_iff_ne.mpr h1
    have H1 := Aside0.mk h1
    clear hX hrd hle hsy h1 h hT hK hZ
    go_enter Try.func157, Try.ntmps157
    go_wp2_with fail
    refine HRD.out.mono ?_
    rintro e w1 ⟨rfl, hI, hB, hk1⟩
    have HB1 := Aside0.mk hB
    clear hI hB hk1 HX HRD hc0
    go_wp2
    go_ret2
    exact ⟨rfl, HB1.out, H1.out⟩
  rw [if_neg h1] at h
  obtain rfl : er1 = 0 := by omega
  obtain ⟨j, hj, _⟩ := hsy rfl
  obtain rfl : s = (j : Int) := hj
  obtain rfl : bad = false := (hle.2 rfl).1
  by_cases h2 : (30 : Int) ≤ (j : Int)
  · rw [if_pos h2] at h
    obtain rfl : 2 = er := by injection h
    have d0 : decide ((30 : Int) ≤ (j : Int)) = true := decide_eq_true h2
    clear hX hrd hle hsy h1 h hT hK hZ
    go_enter Try.func157, Try.ntmps157
    go_wp2_with fail
    refine HRD.out.mono ?_
    rintro e w1 ⟨rfl, hI, hB, hk1⟩
    have HB1 := Aside0.mk hB
    clear hI hB hk1 HX HRD hc0
    go_wp2
    go_ret2
    exact ⟨rfl, HB1.out, by decide⟩
  rw [if_neg h2] at h
  rw [Int.toNat_natCast] at h
  by_cases h3 : 8 * S.size < p2 + bitsD j
  · rw [if_pos h3] at h
    obtain rfl : 3 = er := by injection h
    have hbm := bitsD_at ⟨j, by omega⟩
    change max ((j : Int) / 2 - 1) 0 = (bitsD j : Int) at hbm
    have hp2 : p2 ≤ 8 * S.size := hle.1
    have hN : ∀ W, IsX w0 W g gr S p2 false vo out most vk ks → _ := fun W hX => number_bad g gr S p2 (bitsD j) false vo vk out ks most w0 W hX hZ.1 hp2 (.inr h3)
    obtain ⟨nb, hnb⟩ : ∃ nb : Nat, bitsD j = nb := ⟨_, rfl⟩
    rw [hnb] at hN hbm
    have HN := Aside0.mk hN
    have hmx : mx ((j : Int) / 2 - 1) 0 = (nb : Int) := by rw [← hbm]; unfold mx; omega
    have d0 : decide ((30 : Int) ≤ (j : Int)) = false := decide_eq_false (by omega)
    have j0 : (j : Int) < 30 := by omega
    clear hX hrd hle hsy h1 h3 h hT hK hZ hbm hN hnb
    go_enter Try.func157, Try.ntmps157
    go_wp2_with fail
    refine HRD.out.mono ?_
    rintro e w1 ⟨rfl, hI, hB, hk1⟩
    have HX1 := Aside0.mk (HX.out.reader hI hB hk1)
    clear hI hB hk1 HX HRD hc0
    go_wp2_with fail
    all_goals
      refine (arg_eq (y := (nb : Int)) (by unfold mx at hmx; split at hmx <;> omega) (HN.out _ HX1.out)).mono ?_
      rintro e w2 ⟨rfl, hX2, hk2⟩
      have HX2 := Aside0.mk hX2
      clear hX2 hk2 HX1 HN hmx
      go_wp2
      go_ret2
      exact ⟨rfl, HX2.out.2.2.2.2.2, by decide⟩
  · rw [if_neg h3] at h; cases h



open XInflateAny XTok
theorem own_form {w : World} {base : Nat} {e : TypeId} {size n : Nat} {v : Value} {xs : List Value} (h : w.ownsRow base e size v n xs) : ∃ A c, v = .slice A n c := by
  rcases h.2 with ⟨h, h2⟩ | ⟨k, cap, cur, h, _⟩
  · exact ⟨none, 0, by rw [h, h2]⟩
  · exact ⟨_, _, h⟩
/-- All but the reader, its bits and what is said stay. -/
def KeepX (w w1 : World) (g gr : Nat) (vo : Value) : Prop := w.heap.size ≤ w1.heap.size ∧ ∀ k, k < w.heap.size → k ≠ g → k ≠ gr → some k ≠ vo.ownBlock → w1.heap[k]? = w.heap[k]?
theorem KeepX.refl (w : World) (g gr : Nat) (vo : Value) : KeepX w w g gr vo := ⟨Nat.le_refl _, fun _ _ _ _ _ => rfl⟩
def NewRow (w : World) (vo vo' : Value) : Prop := vo'.ownBlock = vo.ownBlock ∨ ∃ b, vo'.ownBlock = some b ∧ w.heap.size ≤ b
theorem KeepX.trans {w w1 w2 : World} {g gr : Nat} {vo v1 : Value} (h : KeepX w w1 g gr vo) (h1 : KeepX w1 w2 g gr v1) (hn : NewRow w vo v1) : KeepX w w2 g gr vo :=
  ⟨Nat.le_trans h.1 h1.1, fun k hk a b c => (h1.2 k (Nat.lt_of_lt_of_le hk h.1) a b (fun e => by
    rcases hn with hn | ⟨b, hn, hb⟩
    · exact c (e.trans hn)
    · rw [hn] at e; injection e with e; omega)).trans (h.2 k hk a b c)⟩
theorem NewRow.trans {w w1 : World} {vo v1 v2 : Value} (h : NewRow w vo v1) (h1 : NewRow w1 v1 v2) (hs : w.heap.size ≤ w1.heap.size) : NewRow w vo v2 := by
  rcases h1 with h1 | ⟨b, h1, hb⟩
  · rcases h with h | ⟨c, h, hc⟩
    · exact .inl (h1.trans h)
    · exact .inr ⟨c, h1.trans h, hc⟩
  · exact .inr ⟨b, h1, by omega⟩
theorem KeepX.of_but {w w1 : World} {g gr : Nat} {vo : Value} (h : KeepBut w w1 gr none) : KeepX w w1 g gr vo := ⟨h.1, fun k hk _ b _ => h.2 k hk b (by simp)⟩
theorem KeepX.of_below {w w1 : World} {g gr : Nat} {vo : Value} (h : Below w.heap.size w w1) : KeepX w w1 g gr vo := ⟨below_size h, fun k hk _ _ _ => h.block k hk⟩
/-- The reader has come to p, and said out. -/
def XStep (w0 w : World) (g gr : Nat) (S : ByteArray) (vo : Value) (most : Int) (vk : Value) (ks : List Int) (p : Nat) (out : List Int) (w1 : World) : Prop :=
  ∃ vo', IsX w0 w1 g gr S p false vo' out most vk ks ∧ KeepX w w1 g gr vo ∧ NewRow w vo vo'
theorem XStep.trans {w0 w w1 w2 : World} {g gr : Nat} {S : ByteArray} {vo v1 vk : Value} {most : Int} {ks out : List Int} {p : Nat} (hk : KeepX w w1 g gr vo) (hn : NewRow w vo v1) (h : XStep w0 w1 g gr S v1 most vk ks p out w2) : XStep w0 w g gr S vo most vk ks p out w2 := by
  obtain ⟨v2, h1, h2, h3⟩ := h
  exact ⟨v2, h1, hk.trans h2 hn, hn.trans h3 hk.1⟩
theorem IsT.keepX {base : Nat} {w0 W W1 : World} {gt g gr : Nat} {l : List Int} {k : Int} {S : ByteArray} {p : Nat} {bad : Bool} {vo vk : Value} {out ks : List Int} {most : Int} (h : IsT base W gt l k) (hX : IsX w0 W g gr S p bad vo out most vk ks) (hk : KeepX W W1 g gr vo) : IsT base W1 gt l k := by
  obtain ⟨gc, A, cc, h1, h2, h3, h4, h5⟩ := h
  obtain ⟨x1, x2, x3, x4, x5, x6⟩ := hX
  have key : ∀ {b : Nat} {cs : Array Value} {t : TypeId}, W.heap[b]? = some (.cells cs t (0, 0)) → t ≠ 98 → t ≠ 155 → t ≠ 5 → W1.heap[b]? = some (.cells cs t (0, 0)) := fun hb n1 n2 n3 =>
    (hk.2 _ (blk_lt hb) (blk_ne hb x1 n1) (blk_ne hb x3.1 n2) (own_ne' x4 hb n3.symm)).trans hb
  refine ⟨gc, A, cc, key h1 (by decide) (by decide) (by decide), key h2 (by decide) (by decide) (by decide), ?_, h4, h5⟩
  refine Kd.R_mono (Kd.R_step (w1 := W1) (Kd.R_bound h3) (fun k ho hlt => ?_)) (fun _ _ => trivial)
  obtain ⟨_, _, _, q, hq, cells, hc⟩ := ho
  have hq3 : q = 3 := by simpa [Kd.int, Kd.scalar] using hq
  subst hq3
  rw [hc]
  exact key hc (by decide) (by decide) (by decide)
theorem IsX.push {w0 W W2 w1 : World} {g gr n : Nat} {S : ByteArray} {p : Nat} {bad : Bool} {v v1 vk : Value} {o o2 ks : List Int} {most : Int} {xs : List Value} (h : IsX w0 W g gr S p bad v o most vk ks) (hb : Below W.heap.size W W2) (hg : W2.grownBy w1 v.ownBlock) (hat : NewRow W v v1)
    (hown : w1.ownsRow w0.heap.size 5 1 v1 n xs) (hn : o2.length = n) (hx : encs (Value.int .u8) o2 = xs) :
    IsX w0 (w1.setCell ⟨g, 1, none⟩ v1) g gr S p bad v1 o2 most vk ks ∧ KeepX W (w1.setCell ⟨g, 1, none⟩ v1) g gr v ∧ NewRow W v v1 := by
  subst hn hx
  obtain ⟨h1, h2, h3, h4, h5, h6⟩ := h.below hb
  have k1 : w1.heap[g]? = some (.cells #[.pointer (some ⟨gr, 0, none⟩), v, .int .i64 most, vk] 98 (0, 0)) := (hg.block g (blk_lt h1) (own_ne' h4 h1 (by decide))).trans h1
  have k3 : IsS155 w0 w1 gr S (p : Int) bad := h3.grown hg (own_ne' h4 h3.1 (by decide))
  have k5 : w1.ownsRow w0.heap.size 3 1 vk ks.length (encs (Value.int .i64) ks) := own_move h5 (fun k hk => hg.block k (own_lt h5 k hk) (fun e => by
    obtain ⟨c1, e1⟩ := own_typed h5 k hk
    obtain ⟨c2, e2⟩ := own_typed h4 k e.symm
    rw [e1] at e2
    injection e2 with e2
    injection e2 with _ e2
    exact absurd e2 (by decide)))
  have k6 : Below w0.heap.size w0 w1 := Below.grown h6 hg (below_size h6) (own_base h4)
  have s1 : W2.heap.size ≤ w1.heap.size := (KeepBut.of_grown hg g).1
  have s2 := below_size hb
  have m : ∀ {b : Nat} {e n : Nat} {u : Value} {ys : List Value}, w1.ownsRow b e 1 u n ys → e ≠ 98 → (w1.setCell ⟨g, 1, none⟩ v1).ownsRow b e 1 u n ys := fun ho he =>
    own_move ho (fun k hk => Below.heap_setCell w1 ⟨g, 1, none⟩ _ k (fun e => own_ne k1 ho he (hk.trans (by rw [e]))))
  refine ⟨⟨blk_put k1 1 _ rfl, h2, k3.far (blk_ne k3.1 k1 (by decide)) _, m hown (by decide), m k5 (by decide), below_set k6 h2⟩, ⟨?_, fun k hk a b c => ?_⟩, ?_⟩
  · rw [World.size_setCell]; omega
  · exact (Below.heap_setCell w1 ⟨g, 1, none⟩ _ k a).trans ((hg.block k (by omega) c).trans (hb.block k hk))
  · exact hat
theorem rd_push (l : List Int) (x : Int) (i : Int) (h0 : 0 ≤ i) (h1 : i < l.length) : rd (l ++ [x]) i = rd l i := by
  unfold rd
  rw [List.getD_eq_getElem?_getD, List.getD_eq_getElem?_getD, List.getElem?_append_left (by omega)]
theorem lenV_bd (s : Int) (m : Nat) : 0 ≤ lenV s m ∧ lenV s m ≤ 300000 := by
  unfold lenV saysL
  by_cases h1 : s = 284 ∧ (m : Int) = 31
  · rw [if_pos h1]; exact ⟨by decide, by decide⟩
  rw [if_neg h1]
  by_cases h2 : 257 ≤ s ∧ s < 286
  · rw [if_pos h2]
    by_cases h3 : 0 ≤ (m : Int) ∧ (m : Int) < 2 ^ bitsL (s - 257).toNat
    · rw [if_pos h3]
      obtain ⟨_, _, _, _, g1, g2, g3⟩ := rowsL_of (s - 257).toNat (by omega)
      have h5 := pow_le _ _ g1
      have h6 : (2 : Int) ^ 5 = 32 := by decide
      show 0 ≤ baseL _ + (m : Int) ∧ baseL _ + (m : Int) ≤ 300000
      omega
    · rw [if_neg h3]; exact ⟨by decide, by decide⟩
  · rw [if_neg h2]; exact ⟨by decide, by decide⟩
theorem distS_bd {lb : List Int} {kd : Int} (hK : KRes lb kd 0) (Z M p : Nat) (far : Int) (q : Nat) (h : distS lb Z M p = .ok (far, q)) : 1 ≤ far ∧ q ≤ M := by
  have hsy := readA_sym hK Z M p
  unfold distS at h
  rw [(kS_of hK).1] at h
  obtain ⟨R, hR⟩ : ∃ R, readA lb kd Z M p = R := ⟨_, rfl⟩
  rw [hR] at hsy h
  obtain ⟨s, er, p2, bad⟩ := R
  change (if er ≠ 0 then Except.error er else if 30 ≤ s then .error 2 else if M < p2 + bitsD s.toNat then .error 3 else .ok ((saysD s ((Z / 2 ^ p2 % 2 ^ bitsD s.toNat : Nat) : Int)).1, p2 + bitsD s.toNat)) = .ok (far, q) at h
  by_cases h1 : er ≠ 0
  · rw [if_pos h1] at h; cases h
  rw [if_neg h1] at h
  obtain rfl : er = 0 := by omega
  by_cases h2 : 30 ≤ s
  · rw [if_pos h2] at h; cases h
  rw [if_neg h2] at h
  by_cases h3 : M < p2 + bitsD s.toNat
  · rw [if_pos h3] at h; cases h
  rw [if_neg h3] at h
  obtain ⟨j, hj, _⟩ := hsy rfl
  obtain rfl : s = (j : Int) := hj
  rw [Int.toNat_natCast] at h h3
  obtain ⟨rfl, rfl⟩ : (saysD (j : Int) ((Z / 2 ^ p2 % 2 ^ bitsD j : Nat) : Int)).1 = far ∧ p2 + bitsD j = q := by injection h with h; injection h with h4 h5; exact ⟨h4, h5⟩
  obtain ⟨_, _, _, _, _, g2, _⟩ := rowsD_of j (by omega)
  have hm : Z / 2 ^ p2 % 2 ^ bitsD j < 2 ^ bitsD j := Nat.mod_lt _ (Nat.two_pow_pos _)
  have hm2 : ((Z / 2 ^ p2 % 2 ^ bitsD j : Nat) : Int) < 2 ^ bitsD j := by
    have : ((Z / 2 ^ p2 % 2 ^ bitsD j : Nat) : Int) < ((2 ^ bitsD j : Nat) : Int) := by omega
    simpa using this
  refine ⟨?_, by omega⟩
  generalize Z / 2 ^ p2 % 2 ^ bitsD j = m at *
  unfold saysD
  rw [if_pos (by omega), Int.toNat_natCast, if_pos ⟨by omega, hm2⟩]
  show 1 ≤ baseD j + (m : Int)
  omega
set_option maxHeartbeats 1600000 in
set_option maxRecDepth 100000 in
theorem back_ok (base gt g gr : Nat) (lb : List Int) (kd : Int) (S : ByteArray) (Z p : Nat) (s : Int) (q : Nat) (o2 : List Int) (vo vk : Value) (out ks : List Int) (most : Int) (w0 w : World) (hX : IsX w0 w g gr S p false vo out most vk ks) (hT : IsT base w gt lb kd) (hK : KRes lb kd 0) (hZ : IsZ S Z) (hs : 256 < s) (hp : p ≤ 8 * S.size)
    (hm : most ≤ 4194304) (ho : out.length ≤ 4194304) (h : backS lb Z (8 * S.size) most s p out = .ok (q, o2)) :
    Calls Try.prog 141 #[.pointer (some ⟨g, 0, none⟩), .int .i64 s, .pointer (some ⟨gt, 0, none⟩)] w fun e w' => e = .returned (.int .i64 0) ∧ XStep w0 w g gr S vo most vk ks q o2 w' := by
  unfold backS at h
  obtain ⟨R1, hR1⟩ : ∃ R, lenS Z (8 * S.size) s p = R := ⟨_, rfl⟩
  rw [hR1] at h
  rcases R1 with e1 | ⟨n, p1⟩
  · cases h
  change (match distS lb Z (8 * S.size) p1 with
    | .error e => .error e
    | .ok (far, r) => if (out.length : Int) < far then .error 2 else if most < (out.length : Int) + n then .error 7 else .ok (r, copyS far.toNat n.toNat out)) = Except.ok (q, o2) at h
  obtain ⟨R2, hR2⟩ : ∃ R, distS lb Z (8 * S.size) p1 = R := ⟨_, rfl⟩
  rw [hR2] at h
  rcases R2 with e2 | ⟨far, p2⟩
  · cases h
  change (if (out.length : Int) < far then Except.error (2 : Int) else if most < (out.length : Int) + n then .error 7 else .ok (p2, copyS far.toNat n.toNat out)) = .ok (q, o2) at h
  by_cases h1 : (out.length : Int) < far
  · rw [if_pos h1] at h; cases h
  rw [if_neg h1] at h
  by_cases h2 : most < (out.length : Int) + n
  · rw [if_pos h2] at h; cases h
  rw [if_neg h2] at h
  obtain ⟨rfl, rfl⟩ : p2 = q ∧ copyS far.toNat n.toNat out = o2 := by injection h with h; injection h with h4 h5; exact ⟨h4, h5⟩
  have hn0 : 0 ≤ n ∧ n ≤ 300000 := by
    unfold lenS at hR1
    split at hR1
    · cases hR1
    · split at hR1
      · cases hR1
      · injection hR1 with hR1; injection hR1 with hR1 _; rw [← hR1]; exact lenV_bd _ _
  have hp1 : p1 ≤ 8 * S.size := by
    unfold lenS at hR1
    split at hR1
    · cases hR1
    · split at hR1
      · cases hR1
      · injection hR1 with hR1; injection hR1 with _ hR1; omega
  have hf1 : 1 ≤ far := (distS_bd hK Z (8 * S.size) p1 far p2 hR2).1
  obtain ⟨nn, rfl⟩ : ∃ m : Nat, n = m := ⟨n.toNat, by omega⟩
  obtain ⟨ff, rfl⟩ : ∃ m : Nat, far = m := ⟨far.toNat, by omega⟩
  rw [Int.toNat_natCast, Int.toNat_natCast]
  have HL := Aside0.mk (length_ok g gr S Z p s (nn : Int) p1 vo vk out ks most w0 w hX hZ hs hR1)
  have HD := Aside0.mk (fun W (hX : IsX w0 W g gr S p1 false vo out most vk ks) (hT : IsT base W gt lb kd) => distance_ok base gt g gr lb kd S Z p1 (ff : Int) p2 vo vk out ks most w0 W hX hT hK hZ hp1 hR2)
  have HX := Aside0.mk hX
  have HT := Aside0.mk hT
  clear hX hT hR1 hR2 h hK hZ hp
  go_enter Try.func141, Try.ntmps141
  go_wp2_with fail
  refine HL.out.mono ?_
  rintro e w1 ⟨rfl, hX1, hk1⟩
  have HX1 := Aside0.mk hX1
  have HT1 := Aside0.mk (HT.out.keepX HX.out (KeepX.of_but hk1))
  have HK1 := Aside0.mk hk1
  clear hX1 hk1 HL HT HX
  go_wp2_with fail
  refine (HD.out _ HX1.out HT1.out).mono ?_
  rintro e w2 ⟨rfl, hX2, hk2⟩
  have HX2 := Aside0.mk hX2
  have HK2 := Aside0.mk (HK1.out.trans hk2 (.inl rfl))
  clear hX2 hk2 HX1 HT1 HD HK1
  obtain ⟨A, c, rfl⟩ := own_form HX2.out.2.2.2.1
  have hc1 := (blk_cell HX2.out.1 1)
  have hc2 := (blk_cell HX2.out.1 2)
  have hf0 := blk_frozen HX2.out.1 1
  have d1 : decide ((out.length : Int) < (ff : Int)) = false := decide_eq_false (by omega)
  have d2 : decide (most < (out.length : Int) + (nn : Int)) = false := decide_eq_false (by omega)
  have d1b : decide (out.length < ff) = false := decide_eq_false (by omega)
  obtain ⟨i0, hi0, hz0, hz1, hz2⟩ := info_parts info5
  have HG := Aside0.mk HX2.out.2.1
  go_wp2
  go_region
  go_wp2
  go_loopw [60] (fun v60 wr => ∃ (k : Nat) (v' : Value) (o' : List Int), v60 = .int .i64 (k : Int) ∧ k ≤ nn ∧ Aside0 (IsX w0 wr g gr S p2 false v' o' most vk ks) ∧ Aside0 (KeepX w wr g gr (.slice A out.length c)) ∧ Aside0 (NewRow w (.slice A out.length c) v') ∧ Aside0 (copyS ff (nn - k) o' = copyS ff nn out) ∧ o'.length = out.length + k) (fun v60 _ => nn + 1 - (intOf v60).toNat)
  case atStart => exact ⟨0, _, out, rfl, by omega, ⟨HX2.out.below (pw_below_drewN (Below.refl _ _) 1)⟩, ⟨(KeepX.of_but HK2.out).trans (KeepX.of_below (pw_below_drewN (Below.refl _ _) 1)) (.inl rfl)⟩, ⟨.inl rfl⟩, ⟨rfl⟩, rfl⟩
  case round =>
    clear HX2 HK2 hc1 hc2 hf0
    obtain ⟨k, v', o', rfl, hk, HX, HK, HN, HC, hl⟩ := hrel
    have hl1 : o'.length ≤ out.length + k := by omega
    have hl2 : out.length + k ≤ o'.length := by omega
    clear hl
    by_cases hlt : k < nn
    · have d0 : decide ((k : Int) < (nn : Int)) = true := decide_eq_true (by omega)
      have d0' : decide (k < nn) = true := decide_eq_true hlt
      obtain ⟨A', c', rfl⟩ := own_form HX.out.2.2.2.1
      obtain ⟨m, hm⟩ : ∃ m : Nat, (out.length : Int) - (ff : Int) + (k : Int) = m := ⟨out.length - ff + k, by omega⟩
      have HR := Kd.R_of_own (enc := Value.int .u8) (h1 := fun _ => rfl) (ok := fun _ => True) HX.out.2.2.2.1 (fun _ _ => trivial)
      obtain ⟨ga, ca, ea, _, _, _, _⟩ := Kd.R_form HR (by omega)
      cases ea
      obtain ⟨hxs, hxf⟩ := Kd.R_celln 0 HR (m : Int) (by omega) (by omega)
      rw [Int.toNat_natCast] at hxs hxf
      obtain ⟨b, hb⟩ : ∃ b, rd o' (m : Int) = b := ⟨_, rfl⟩
      replace hxs : wr.cell? ⟨ga, m, none⟩ = some (.int .u8 b) := hxs.trans (by rw [← hb]; rfl)
      have hc0 : wr.cell? ⟨g, 1, none⟩ = some (.slice (some ⟨ga, 0, none⟩) o'.length c') := (blk_cell HX.out.1 1).trans rfl
      have m0 : 0 ≤ (m : Int) := by omega
      have m1 : (m : Int) < (o'.length : Int) := by omega
      have hne := Aside0.mk (own_ne HX.out.1 HX.out.2.2.2.1 (by decide))
      have hlt2 := blk_lt HX.out.1
      have hne0 := World.new_ne wr ⟨g, 1, none⟩ hc0
      have hne1 := World.new_ne wr ⟨ga, m, none⟩ hxs
      have HBB := Aside0.mk hb
      have hw : IntKind.i64.wrap ((out.length : Int) - (ff : Int) + (k : Int)) = (m : Int) := by rw [hm, i64_w]; unfold wrap64; omega
      have HM := Aside0.mk hm
      clear HR hb hm
      go_wp2_with fail
      go_region_law
        ((refine step_append_lies _ (by rfl) _ _ _ (by rfl) w0.heap.size 5 i0 _ 1 1 Try.underlying52 hi0 hz0 hz1 hz2 rfl (by omega) (.slice (some ⟨ga, 0, none⟩) o'.length c') o'.length (encs (Value.int .u8) o') (by rfl) ((HX.out.2.2.2.1.alloc _).drew)
              ⟨wr.heap.size, 0, none⟩ 1 1 [.int .u8 b] (by rfl) (by rfl) (World.news_of_block (cs := #[.int .u8 b]) (t := 5) (fr := (0, 0)) (heap_alloc_new wr _)) (by simp [Value.oneCell'])
              (by omega) (by simp only [maxLen]; omega) (by omega) (by simp; have := below_size HX.out.2.2.2.2.2; omega) (wr.heap.size + 1) (by simp) ?_; intro gg cap w1 hown1 hgrow hat hlt1; have BK1 := Aside0.mk (show w1.heap[g]? = some (.cells #[.pointer (some ⟨gr, 0, none⟩), .slice (some ⟨ga, 0, none⟩) o'.length c', .int .i64 most, vk] 98 (0, 0)) from (hgrow.block g (by simp; omega) (fun e => hne.out e.symm)).trans (blk_alloc HX.out.1 _)); have HG1 := Aside0.mk hgrow; have HA1 := Aside0.mk hat; have HO1 := Aside0.mk hown1; clear hown1 hgrow hat; have hk1 : w1.cell? ⟨g, 1, none⟩ = some (.slice (some ⟨ga, 0, none⟩) o'.length c') := (blk_cell BK1.out 1).trans rfl; have hz_1 := blk_frozen BK1.out 1))
      all_goals
        have HP := Aside0.mk (IsX.push (v1 := .slice (some ⟨gg, 0, none⟩) (o'.length + 1) cap) (o2 := o' ++ [b]) HX.out (by repeat (first | exact Below.refl _ _ | apply below_drew1 | apply below_alloc | apply pw_below_drewN)) HG1.out (HA1.out.elim (fun h => .inl h.symm) (fun h => .inr ⟨gg, rfl, by omega⟩)) HO1.out (by simp) (by rw [encs_append]; rfl))
        have HC2 := Aside0.mk (show copyS ff (nn - (k + 1)) (o' ++ [b]) = copyS ff nn out by
          rw [← HC.out, show nn - k = (nn - (k + 1)) + 1 from by omega, copyS, ← HBB.out, ← HM.out, show (out.length : Int) - (ff : Int) + (k : Int) = (o'.length : Int) - (ff : Int) from by omega])
        clear BK1 HG1 HA1 HO1 hk1 hz_1 hxs hxf hc0 hne0 hne1 hw
        go_wp2_with fail
        go_roundw
        case rel => exact ⟨k + 1, _, o' ++ [b], by go_num, by omega, ⟨HP.out.1⟩, ⟨HK.out.trans HP.out.2.1 HN.out⟩, ⟨HN.out.trans HP.out.2.2 HK.out.1⟩, HC2, by simp; omega⟩
        case measure => simp [intOf]; omega
    · have d0 : decide ((k : Int) < (nn : Int)) = false := decide_eq_false (by omega)
      have d0' : decide (k < nn) = false := decide_eq_false hlt
      have hc := HC.out
      rw [show nn - k = 0 from by omega, copyS] at hc
      have HC2 := Aside0.mk hc
      clear hc
      go_wp2
      go_ret
      exact ⟨rfl, _, by rw [← HC2.out]; exact HX.out, HK.out, HN.out⟩



open XInflateAny XTok
theorem lenS_p {Z M : Nat} {s : Int} {p : Nat} {n : Int} {q : Nat} (h : lenS Z M s p = .ok (n, q)) : q ≤ M ∧ p ≤ q ∧ 0 ≤ n ∧ n ≤ 300000 := by
  unfold lenS at h
  by_cases h1 : 286 ≤ s
  · rw [if_pos h1] at h; cases h
  rw [if_neg h1] at h
  by_cases h2 : M < p + lenB s
  · rw [if_pos h2] at h; cases h
  rw [if_neg h2] at h
  obtain ⟨rfl, rfl⟩ : lenV s (Z / 2 ^ p % 2 ^ lenB s) = n ∧ p + lenB s = q := by injection h with h; injection h with h3 h4; exact ⟨h3, h4⟩
  have := lenV_bd s (Z / 2 ^ p % 2 ^ lenB s)
  exact ⟨by omega, by omega, this.1, this.2⟩
set_option maxHeartbeats 1600000 in
set_option maxRecDepth 100000 in
theorem back_err (base gt g gr : Nat) (lb : List Int) (kd : Int) (S : ByteArray) (Z p : Nat) (s : Int) (er : Int) (vo vk : Value) (out ks : List Int) (most : Int) (w0 w : World) (hX : IsX w0 w g gr S p false vo out most vk ks) (hT : IsT base w gt lb kd) (hK : KRes lb kd 0) (hZ : IsZ S Z) (hs : 256 < s) (hp : p ≤ 8 * S.size)
    (ho : out.length ≤ 4194304) (h : backS lb Z (8 * S.size) most s p out = .error er) :
    Calls Try.prog 141 #[.pointer (some ⟨g, 0, none⟩), .int .i64 s, .pointer (some ⟨gt, 0, none⟩)] w fun e w' => e = .returned (.int .i64 er) ∧ Below w0.heap.size w0 w' ∧ er ≠ 0 := by
  unfold backS at h
  obtain ⟨R1, hR1⟩ : ∃ R, lenS Z (8 * S.size) s p = R := ⟨_, rfl⟩
  rw [hR1] at h
  rcases R1 with e1 | ⟨n, p1⟩
  · obtain rfl : e1 = er := by injection h
    have HL := Aside0.mk (length_err g gr S Z p s e1 vo vk out ks most w0 w hX hZ hs hp hR1)
    clear hX hT hR1 h hK hZ hp
    go_enter Try.func141, Try.ntmps141
    go_wp2_with fail
    refine HL.out.mono ?_
    rintro e w1 ⟨rfl, hb, hne⟩
    have HB := Aside0.mk hb
    have HN := Aside0.mk hne
    have q0 : (e1 == 0) = false := beq_eq_false_iff_ne.mpr hne
    have q1 : (e1 != 0) = true := bne_iff_ne.mpr hne
    clear hb hne HL
    go_wp2
    go_ret
    exact ⟨rfl, HB.out, HN.out⟩
  change (match distS lb Z (8 * S.size) p1 with
    | .error e => .error e
    | .ok (far, r) => if (out.length : Int) < far then .error 2 else if most < (out.length : Int) + n then .error 7 else .ok (r, copyS far.toNat n.toNat out)) = Except.error er at h
  obtain ⟨hp1, _, hn0, hn1⟩ := lenS_p hR1
  have HL := Aside0.mk (length_ok g gr S Z p s n p1 vo vk out ks most w0 w hX hZ hs hR1)
  have HX := Aside0.mk hX
  have HT := Aside0.mk hT
  obtain ⟨R2, hR2⟩ : ∃ R, distS lb Z (8 * S.size) p1 = R := ⟨_, rfl⟩
  rw [hR2] at h
  rcases R2 with e2 | ⟨far, p2⟩
  · obtain rfl : e2 = er := by injection h
    have HD := Aside0.mk (fun W (hX : IsX w0 W g gr S p1 false vo out most vk ks) (hT : IsT base W gt lb kd) => distance_err base gt g gr lb kd S Z p1 e2 vo vk out ks most w0 W hX hT hK hZ hp1 hR2)
    clear hX hT hR1 hR2 h hK hZ hp
    go_enter Try.func141, Try.ntmps141
    go_wp2_with fail
    refine HL.out.mono ?_
    rintro e w1 ⟨rfl, hX1, hk1⟩
    have HX1 := Aside0.mk hX1
    have HT1 := Aside0.mk (HT.out.keepX HX.out (KeepX.of_but hk1))
    have HK1 := Aside0.mk hk1
    clear hX1 hk1 HL HT HX
    go_wp2_with fail
    refine (HD.out _ HX1.out HT1.out).mono ?_
    rintro e w2 ⟨rfl, hb, hne⟩
    have HB := Aside0.mk hb
    have HN := Aside0.mk hne
    have q0 : (e2 == 0) = false := beq_eq_false_iff_ne.mpr hne
    have q1 : (e2 != 0) = true := bne_iff_ne.mpr hne
    clear hb hne HX1 HT1 HD HK1
    go_wp2
    go_ret
    exact ⟨rfl, HB.out, HN.out⟩
  change (if (out.length : Int) < far then Except.error (2 : Int) else if most < (out.length : Int) + n then .error 7 else .ok (p2, copyS far.toNat n.toNat out)) = .error er at h
  have hf1 := (distS_bd hK Z (8 * S.size) p1 far p2 hR2).1
  have HD := Aside0.mk (fun W (hX : IsX w0 W g gr S p1 false vo out most vk ks) (hT : IsT base W gt lb kd) => distance_ok base gt g gr lb kd S Z p1 far p2 vo vk out ks most w0 W hX hT hK hZ hp1 hR2)
  by_cases h1 : (out.length : Int) < far
  · rw [if_pos h1] at h
    obtain rfl : 2 = er := by injection h
    have d1 : decide ((out.length : Int) < far) = true := decide_eq_true h1
    clear hX hT hR1 hR2 h hK hZ hp
    go_enter Try.func141, Try.ntmps141
    go_wp2_with fail
    refine HL.out.mono ?_
    rintro e w1 ⟨rfl, hX1, hk1⟩
    have HX1 := Aside0.mk hX1
    have HT1 := Aside0.mk (HT.out.keepX HX.out (KeepX.of_but hk1))
    have HK1 := Aside0.mk hk1
    clear hX1 hk1 HL HT HX
    go_wp2_with fail
    refine (HD.out _ HX1.out HT1.out).mono ?_
    rintro e w2 ⟨rfl, hX2, hk2⟩
    have HX2 := Aside0.mk hX2
    clear hX2 hk2 HX1 HT1 HD HK1
    obtain ⟨A, c, rfl⟩ := own_form HX2.out.2.2.2.1
    have hc1 := (blk_cell HX2.out.1 1)
    have hc2 := (blk_cell HX2.out.1 2)
    have hf0 := blk_frozen HX2.out.1 1
    go_wp2
    go_ret
    exact ⟨rfl, HX2.out.2.2.2.2.2, by decide⟩
  rw [if_neg h1] at h
  by_cases h2 : most < (out.length : Int) + n
  · rw [if_pos h2] at h
    obtain rfl : 7 = er := by injection h
    have d1 : decide ((out.length : Int) < far) = false := decide_eq_false h1
    have d2 : decide (most < (out.length : Int) + n) = true := decide_eq_true h2
    clear hX hT hR1 hR2 h hK hZ hp
    go_enter Try.func141, Try.ntmps141
    go_wp2_with fail
    refine HL.out.mono ?_
    rintro e w1 ⟨rfl, hX1, hk1⟩
    have HX1 := Aside0.mk hX1
    have HT1 := Aside0.mk (HT.out.keepX HX.out (KeepX.of_but hk1))
    have HK1 := Aside0.mk hk1
    clear hX1 hk1 HL HT HX
    go_wp2_with fail
    refine (HD.out _ HX1.out HT1.out).mono ?_
    rintro e w2 ⟨rfl, hX2, hk2⟩
    have HX2 := Aside0.mk hX2
    clear hX2 hk2 HX1 HT1 HD HK1
    obtain ⟨A, c, rfl⟩ := own_form HX2.out.2.2.2.1
    have hc1 := (blk_cell HX2.out.1 1)
    have hc2 := (blk_cell HX2.out.1 2)
    have hf0 := blk_frozen HX2.out.1 1
    go_wp2
    go_region
    go_wp2
    go_ret
    exact ⟨rfl, (HX2.out.below (pw_below_drewN (Below.refl _ _) 1)).2.2.2.2.2, by decide⟩
  rw [if_neg h2] at h
  cases h



open XInflateAny XTok
theorem copyS_len (far : Nat) : ∀ (n : Nat) (o : List Int), (copyS far n o).length = o.length + n
  | 0, o => rfl
  | n + 1, o => by rw [copyS, copyS_len far n]; simp; omega
theorem distS_p {lb : List Int} {kd : Int} (hK : KRes lb kd 0) {Z M p : Nat} {far : Int} {q : Nat} (hp : p ≤ M) (h : distS lb Z M p = .ok (far, q)) : p ≤ q := by
  have hle := readA_le lb kd Z M p hp
  unfold distS at h
  rw [(kS_of hK).1] at h
  by_cases h1 : (readA lb kd Z M p).2.1 ≠ 0
  · rw [if_pos h1] at h; cases h
  rw [if_neg h1] at h
  have h0 : (readA lb kd Z M p).2.1 = 0 := by omega
  have := (hle.2 h0).2
  split at h
  · cases h
  · split at h
    · cases h
    · injection h with h; injection h with _ h; omega
theorem backS_len {lb : List Int} {kd : Int} (hK : KRes lb kd 0) {Z M : Nat} {most : Int} {s : Int} {p : Nat} {out : List Int} {q : Nat} {o2 : List Int} (h : backS lb Z M most s p out = .ok (q, o2)) (hm : most ≤ 4194304) : q ≤ M ∧ p ≤ q ∧ o2.length ≤ 4194304 := by
  unfold backS at h
  obtain ⟨R1, hR1⟩ : ∃ R, lenS Z M s p = R := ⟨_, rfl⟩
  rw [hR1] at h
  rcases R1 with e1 | ⟨n, p1⟩
  · cases h
  obtain ⟨a1, a2, a3, a4⟩ := lenS_p hR1
  change (match distS lb Z M p1 with
    | .error e => .error e
    | .ok (far, r) => if (out.length : Int) < far then .error 2 else if most < (out.length : Int) + n then .error 7 else .ok (r, copyS far.toNat n.toNat out)) = Except.ok (q, o2) at h
  obtain ⟨R2, hR2⟩ : ∃ R, distS lb Z M p1 = R := ⟨_, rfl⟩
  rw [hR2] at h
  rcases R2 with e2 | ⟨far, p2⟩
  · cases h
  obtain ⟨_, b1⟩ := distS_bd hK Z M p1 far p2 hR2
  have b2 := distS_p hK a1 hR2
  change (if (out.length : Int) < far then Except.error (2 : Int) else if most < (out.length : Int) + n then .error 7 else .ok (p2, copyS far.toNat n.toNat out)) = .ok (q, o2) at h
  by_cases h1 : (out.length : Int) < far
  · rw [if_pos h1] at h; cases h
  rw [if_neg h1] at h
  by_cases h2 : most < (out.length : Int) + n
  · rw [if_pos h2] at h; cases h
  rw [if_neg h2] at h
  obtain ⟨rfl, rfl⟩ : p2 = q ∧ copyS far.toNat n.toNat out = o2 := by injection h with h; injection h with h4 h5; exact ⟨h4, h5⟩
  exact ⟨b1, by omega, by rw [copyS_len]; omega⟩
def XPost (w0 w : World) (g gr : Nat) (S : ByteArray) (vo : Value) (most : Int) (vk : Value) (ks : List Int) (R : Except Int (Nat × List Int)) (e : Ending) (w' : World) : Prop :=
  (∃ er, R = .error er ∧ e = .returned (.int .i64 er) ∧ Below w0.heap.size w0 w' ∧ er ≠ 0) ∨ (∃ q o2, R = .ok (q, o2) ∧ e = .returned (.int .i64 0) ∧ XStep w0 w g gr S vo most vk ks q o2 w' ∧ q ≤ 8 * S.size ∧ o2.length ≤ 4194304)
set_option maxHeartbeats 4000000 in
set_option maxRecDepth 100000 in
theorem coded_calls (ba bb ga gb g gr : Nat) (la lb : List Int) (ka kb : Int) (S : ByteArray) (Z p : Nat) (vo vk : Value) (out ks : List Int) (most : Int) (w0 w : World) (hX : IsX w0 w g gr S p false vo out most vk ks) (hTa : IsT ba w ga la ka) (hKa : KRes la ka 0) (hTb : IsT bb w gb lb kb) (hKb : KRes lb kb 0) (hZ : IsZ S Z) (hp : p ≤ 8 * S.size)
    (hm : most ≤ 4194304) (ho : out.length ≤ 4194304) :
    Calls Try.prog 121 #[.pointer (some ⟨g, 0, none⟩), .pointer (some ⟨ga, 0, none⟩), .pointer (some ⟨gb, 0, none⟩)] w fun e w' => XPost w0 w g gr S vo most vk ks (codedS la lb Z (8 * S.size) most (8 * S.size + 1) p out) e w' := by
  obtain ⟨R, hR⟩ : ∃ R, codedS la lb Z (8 * S.size) most (8 * S.size + 1) p out = R := ⟨_, rfl⟩
  obtain ⟨M, hM⟩ : ∃ M, 8 * S.size = M := ⟨_, rfl⟩
  rw [hR]
  rw [hM] at hR hp
  obtain ⟨i0, hi0, hz0, hz1, hz2⟩ := info_parts info5
  have HX := Aside0.mk hX
  have HR := Aside0.mk hR
  have HTa := Aside0.mk hTa
  have HTb := Aside0.mk hTb
  have HMM := Aside0.mk hM
  have HKa := Aside0.mk hKa
  have HKb := Aside0.mk hKb
  have HZ := Aside0.mk hZ
  clear hX hR hTa hTb hM hKa hKb hZ
  go_enter Try.func121, Try.ntmps121
  go_wp2
  go_loopg [] (M + 1) (fun f wr => ∃ (p' : Nat) (v' : Value) (o' : List Int), Aside0 (IsX w0 wr g gr S p' false v' o' most vk ks) ∧ Aside0 (KeepX w wr g gr vo) ∧ Aside0 (NewRow w vo v') ∧ Aside0 (codedS la lb Z M most f p' o' = R) ∧ Aside0 (p' ≤ M ∧ M < p' + f ∧ o'.length ≤ 4194304))
  case atStart => exact ⟨p, vo, out, HX, ⟨KeepX.refl _ _ _ _⟩, ⟨.inl rfl⟩, HR, ⟨hp, by omega, ho⟩⟩
  case round =>
    clear HR hp ho
    obtain ⟨p', v', o', HX1, HK, HN, HR, HP⟩ := hrel
    cases gk with
    | zero => exact absurd HP.out (by omega)
    | succ f =>
      have hR := HR.out
      have hX1 := HX1.out
      have hrd := read_all ba ga gr la ka p' Z S w0 wr (HTa.out.keepX HX.out HK.out) hX1.2.2.1 hX1.2.2.2.2.2 (by rw [HMM.out]; exact HP.out.1) HZ.out.1 HKa.out.okl.1 HZ.out.2
      have hsy := readA_sym HKa.out Z M p'
      have hle := readA_le la ka Z M p' HP.out.1
      rw [codedS, (kS_of HKa.out).1] at hR
      rw [HMM.out] at hrd
      obtain ⟨A, hA⟩ : ∃ A, readA la ka Z M p' = A := ⟨_, rfl⟩
      rw [hA] at hrd hsy hle hR
      obtain ⟨s, er, p2, bad⟩ := A
      change (if er ≠ 0 then Except.error er else if s = 256 then .ok (p2, o') else if 256 < s then (match backS lb Z M most s p2 o' with | .error e => .error e | .ok (q, o2) => codedS la lb Z M most f q o2) else if most ≤ (o'.length : Int) then .error 7 else codedS la lb Z M most f p2 (o' ++ [s])) = R at hR
      have HRD := Aside0.mk hrd
      have hc0 := blk_cell hX1.1 0
      by_cases h1 : er ≠ 0
      · rw [if_pos h1] at hR
        have HR2 := Aside0.mk hR
        have H1 := Aside0.mk h1
        have e0 : (er == 0) = false := beq_eq_false_iff_ne.mpr h1
        have e1 : (er != 0) = true := bne_iff_ne.mpr h1
        clear hX1 hrd hle hsy h1 hR hA HR
        go_wp2_with fail
        refine HRD.out.mono ?_
        rintro e w1 ⟨rfl, hI, hB, hk1⟩
        have HB1 := Aside0.mk hB
        clear hI hB hk1 HRD hc0
        go_wp2
        go_ret
        exact .inl ⟨er, HR2.out.symm, rfl, HB1.out, H1.out⟩
      · rw [if_neg h1] at hR
        obtain rfl : er = 0 := by omega
        obtain ⟨j, hj, _⟩ := hsy rfl
        obtain rfl : s = (j : Int) := hj
        obtain ⟨hb0, hp2⟩ := hle.2 rfl
        obtain rfl : bad = false := hb0
        have HP2 := Aside0.mk (show p2 ≤ M ∧ p' < p2 from ⟨hle.1, hp2⟩)
        clear hle hsy h1 hA hrd HR hp2
        by_cases h2 : (j : Int) = 256
        · rw [if_pos h2] at hR
          have HR2 := Aside0.mk hR
          have e2 : ((j : Int) == 256) = true := beq_iff_eq.mpr h2
          clear hX1 hR
          go_wp2_with fail
          refine HRD.out.mono ?_
          rintro e w1 ⟨rfl, hI, hB, hk1⟩
          have HX2 := Aside0.mk (HX1.out.reader hI hB hk1)
          have HK2 := Aside0.mk (HK.out.trans (KeepX.of_but hk1) HN.out)
          clear hI hB hk1 HRD hc0
          go_wp2
          go_ret
          exact .inr ⟨p2, o', HR2.out.symm, rfl, ⟨v', HX2.out, HK2.out, HN.out⟩, by rw [HMM.out]; exact HP2.out.1, HP.out.2.2⟩
        · rw [if_neg h2] at hR
          have e2 : ((j : Int) == 256) = false := beq_eq_false_iff_ne.mpr h2
          by_cases h3 : 256 < (j : Int)
          · rw [if_pos h3] at hR
            have d3 : decide (256 < (j : Int)) = true := decide_eq_true h3
            obtain ⟨B, hB⟩ : ∃ B, backS lb Z M most (j : Int) p2 o' = B := ⟨_, rfl⟩
            rw [hB] at hR
            rcases B with eb | ⟨q, o2⟩
            · have HR2 := Aside0.mk (show Except.error eb = R from hR)
              have HBE := Aside0.mk (fun W (hX : IsX w0 W g gr S p2 false v' o' most vk ks) (hT : IsT bb W gb lb kb) => back_err bb gb g gr lb kb S Z p2 (j : Int) eb v' vk o' ks most w0 W hX hT HKb.out HZ.out h3 (by rw [HMM.out]; exact HP2.out.1) HP.out.2.2 (by rw [HMM.out]; exact hB))
              clear hX1 hR hB
              go_wp2_with fail
              refine HRD.out.mono ?_
              rintro e w1 ⟨rfl, hI, hB, hk1⟩
              have HX2 := Aside0.mk (HX1.out.reader hI hB hk1)
              have HK2 := Aside0.mk (HK.out.trans (KeepX.of_but hk1) HN.out)
              clear hI hB hk1 HRD hc0
              go_wp2_with fail
              refine (HBE.out _ HX2.out (HTb.out.keepX HX.out HK2.out)).mono ?_
              rintro e w2 ⟨rfl, hb, hne⟩
              have HB := Aside0.mk hb
              have H1 := Aside0.mk hne
              have q0 : (eb == 0) = false := beq_eq_false_iff_ne.mpr hne
              have q1 : (eb != 0) = true := bne_iff_ne.mpr hne
              clear hb hne HBE
              go_wp2
              go_ret
              exact .inl ⟨eb, HR2.out.symm, rfl, HB.out, H1.out⟩
            · have HR2 := Aside0.mk (show codedS la lb Z M most f q o2 = R from hR)
              have HBL := Aside0.mk (backS_len HKb.out hB hm)
              have HBE := Aside0.mk (fun W (hX : IsX w0 W g gr S p2 false v' o' most vk ks) (hT : IsT bb W gb lb kb) => back_ok bb gb g gr lb kb S Z p2 (j : Int) q o2 v' vk o' ks most w0 W hX hT HKb.out HZ.out h3 (by rw [HMM.out]; exact HP2.out.1) hm HP.out.2.2 (by rw [HMM.out]; exact hB))
              clear hX1 hR hB
              go_wp2_with fail
              refine HRD.out.mono ?_
              rintro e w1 ⟨rfl, hI, hB, hk1⟩
              have HX2 := Aside0.mk (HX1.out.reader hI hB hk1)
              have HK2 := Aside0.mk (HK.out.trans (KeepX.of_but hk1) HN.out)
              clear hI hB hk1 HRD hc0
              go_wp2_with fail
              refine (HBE.out _ HX2.out (HTb.out.keepX HX.out HK2.out)).mono ?_
              rintro e w2 ⟨rfl, v2, hX3, hk3, hn3⟩
              have HX3 := Aside0.mk hX3
              have HK3 := Aside0.mk (HK2.out.trans hk3 HN.out)
              have HN3 := Aside0.mk (HN.out.trans hn3 HK2.out.1)
              clear hX3 hk3 hn3 HBE
              go_wp2
              go_roundg f
              case measure => exact Nat.lt_succ_self _
              case rel => exact ⟨q, v2, o2, HX3, HK3, HN3, HR2, ⟨HBL.out.1, by have := HBL.out; have := HP2.out; have := HP.out; omega, HBL.out.2.2⟩⟩
          · rw [if_neg h3] at hR
            have d3 : decide (256 < (j : Int)) = false := decide_eq_false h3
            go_wp2_with fail
            refine HRD.out.mono ?_
            rintro e w1 ⟨rfl, hI, hB, hk1⟩
            have HX2 := Aside0.mk (HX1.out.reader hI hB hk1)
            have HK2 := Aside0.mk (HK.out.trans (KeepX.of_but hk1) HN.out)
            obtain ⟨A', c', rfl⟩ := own_form HX2.out.2.2.2.1
            have hc1 := (blk_cell HX2.out.1 1)
            have hc2 := (blk_cell HX2.out.1 2)
            clear hI hB hk1 HRD hc0 hX1
            by_cases h4 : most ≤ (o'.length : Int)
            · rw [if_pos h4] at hR
              have HR2 := Aside0.mk hR
              have d4 : decide (most ≤ (o'.length : Int)) = true := decide_eq_true h4
              clear hR
              go_wp2
              go_region
              go_wp2
              go_ret
              exact .inl ⟨7, HR2.out.symm, rfl, (HX2.out.below (pw_below_drewN (Below.refl _ _) 1)).2.2.2.2.2, by decide⟩
            · rw [if_neg h4] at hR
              have HR2 := Aside0.mk hR
              have d4 : decide (most ≤ (o'.length : Int)) = false := decide_eq_false h4
              clear hR
              go_wp2
              go_region
              have HX3 := Aside0.mk (HX2.out.below (show Below w1.heap.size w1 w1.drew from below_drew1 (Below.refl _ _)))
              have HK3 := Aside0.mk (HK2.out.trans (KeepX.of_below (show Below w1.heap.size w1 w1.drew from below_drew1 (Below.refl _ _))) HN.out)
              clear HX2 HK2 hc1 hc2
              generalize w1.drew = W3 at HX3 HK3 ⊢
              have hc1 : W3.cell? ⟨g, 1, none⟩ = some (.slice A' o'.length c') := (blk_cell HX3.out.1 1).trans rfl
              have hj : (j : Int) < 256 := by omega
              have e0 : IntKind.u8.wrap (j : Int) = (j : Int) := by show (j : Int) % 256 = _; omega
              have hlen : o'.length ≤ 4194304 := HP.out.2.2
              go_wp2_with (first | ((with_reducible refine gate_builtin (b := .append) (xs := #[.tmp 22, .tmp 25]) rfl ?_); at_builtin; refine print_append_cells (w0 := w0) w0.heap.size rfl (.tmp 22) (.tmp 25) 52 5 (.int .u8 0) 1 1 rfl Try.underlying52 info5 rfl (by decide) (by omega) (.slice A' o'.length c') o'.length (encs (Value.int .u8) o') [.int .u8 (j : Int)] rfl rfl rfl (by simp [Value.oneCell']) HX3.out.2.2.2.1 HX3.out.2.2.2.2.2 (below_size HX3.out.2.2.2.2.2) (by omega) ?_; intro v9 w9 ho hb hg hat; obtain ⟨A9, c9, rfl⟩ := own_form ho; have BK1 := Aside0.mk (show w9.heap[g]? = some (.cells #[.pointer (some ⟨gr, 0, none⟩), .slice A' o'.length c', .int .i64 most, vk] 98 (0, 0)) from (hg.block g (blk_lt HX3.out.1) (own_ne' HX3.out.2.2.2.1 HX3.out.1 (by decide))).trans HX3.out.1); have HPP := Aside0.mk (IsX.push (o2 := o' ++ [(j : Int)]) HX3.out (Below.refl _ _) hg hat ho (by simp) (by rw [encs_append]; rfl)); have hk1 : w9.cell? ⟨g, 1, none⟩ = some (.slice A' o'.length c') := (blk_cell BK1.out 1).trans rfl; have hz_1 := blk_frozen BK1.out 1; clear ho hb hg hat hc1))
              all_goals
                go_roundg f
                case measure => exact Nat.lt_succ_self _
                case rel => exact ⟨p2, _, o' ++ [(j : Int)], ⟨HPP.out.1⟩, ⟨HK3.out.trans HPP.out.2.1 HN.out⟩, ⟨HN.out.trans HPP.out.2.2 HK3.out.1⟩, HR2, ⟨HP2.out.1, by have := HP2.out; have := HP.out; omega, by have := HP.out; simp; omega⟩⟩


end Go.Proofs.Ytmanmjjjepdhlaa.XPrefix
