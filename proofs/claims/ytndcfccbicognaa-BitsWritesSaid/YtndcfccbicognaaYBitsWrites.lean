/- BitsWrites: the walk of the law. It has no conditions. -/
import Derived.Test.YtndcfccbicognaaYBitsVec
import Derived.Deep.RegionHeld3
import Derived.Deep.RegionWith
import Derived.Deep.DrawnRows
namespace Go.Proofs.Ytndcfccbicognaa.XBitsReads
set_option linter.unusedVariables false
set_option linter.unusedSimpArgs false
open Go.RowKit Go.Proofs.YtndcfccbicognaaW.PrintWords Go.Proofs.YtndcfccbicognaaW.PrintLast Go.Proofs.YtndcfccbicognaaW.PrintMore
attribute [local go_sem ↓] Go.wp_at_zero Go.wp_at_succ

/-- Both writers, and the deed's block. -/
def WD (w W : World) (g1 g2 gr : Nat) (vb : Value) (B : List Int) (last n : Int) (vv : Value) (L : List Int) (cs : Array Value) : Prop :=
  IsW w W g1 vb B last n ∧ IsV w W g2 vv L ∧ (∀ k, vb.ownBlock = some k → vv.ownBlock ≠ some k) ∧ Below w.heap.size w W ∧ W.heap[gr]? = some (.cells cs 28 (0, 0))
theorem WD.drewN {w W : World} {g1 g2 gr : Nat} {vb vv : Value} {B L : List Int} {last n : Int} {cs : Array Value} (h : WD w W g1 g2 gr vb B last n vv L cs) (m : Nat) : WD w (W.drewN m) g1 g2 gr vb B last n vv L cs :=
  ⟨h.1, h.2.1, h.2.2.1, pw_below_drewN h.2.2.2.1 m, h.2.2.2.2⟩
theorem WD.below {w W W1 : World} {g1 g2 gr : Nat} {vb vv : Value} {B L : List Int} {last n : Int} {cs : Array Value} (h : WD w W g1 g2 gr vb B last n vv L cs) (hb : Below W.heap.size W W1) : WD w W1 g1 g2 gr vb B last n vv L cs :=
  ⟨h.1.below hb, h.2.1.below hb, h.2.2.1, below_step h.2.2.2.1 hb, blk_below h.2.2.2.2 hb⟩
theorem own_of_type {w : World} {base g : Nat} {e t : TypeId} {n : Nat} {v : Value} {xs : List Value} {cs : Array Value} (ho : w.ownsRow base e 1 v n xs) (hb : w.heap[g]? = some (.cells cs t (0, 0))) (hne : e ≠ t) : some g ≠ v.ownBlock := fun e1 => own_ne hb ho hne e1.symm
theorem WD.main {w W W1 : World} {g1 g2 gr : Nat} {vb vv : Value} {B L : List Int} {last n : Int} {cs : Array Value} {r : List Int × Int × Int} (h : WD w W g1 g2 gr vb B last n vv L cs) (hp : PutPost w W g1 vb r W1) : ∃ vb', WD w W1 g1 g2 gr vb' r.1 r.2.1 r.2.2 vv L cs := by
  obtain ⟨h1, h2, h3, h4, h5⟩ := h
  obtain ⟨v', i1, b1, k1, a1⟩ := hp
  refine ⟨v', i1, ⟨k1.blk h2.1 (blk_ne h2.1 h1.1 (by decide)) (own_of_type h1.2.2 h2.1 (by decide)), h2.2.1, k1.own h2.2.2 (own_ne h1.1 h2.2.2 (by decide)) ?_⟩, fun k hk => ?_, b1, k1.blk h5 (blk_ne h5 h1.1 (by decide)) (own_of_type h1.2.2 h5 (by decide))⟩
  · rcases hv : vv.ownBlock with _ | k
    · exact .inl rfl
    · exact .inr fun e => h3 k e.symm hv
  · rcases a1 with a1 | ⟨b, a1, a2⟩
    · exact h3 k (a1 ▸ hk)
    · intro e
      have hlt := own_lt h2.2.2 k e
      rw [a1] at hk
      injection hk with hk
      omega
theorem WD.ref {w W W1 : World} {g1 g2 gr : Nat} {vb vv : Value} {B L L1 : List Int} {last n : Int} {cs : Array Value} (h : WD w W g1 g2 gr vb B last n vv L cs) (hp : VPost w W g2 vv L1 W1) : ∃ vv', WD w W1 g1 g2 gr vb B last n vv' L1 cs := by
  obtain ⟨h1, h2, h3, h4, h5⟩ := h
  obtain ⟨v', i1, b1, k1, a1⟩ := hp
  refine ⟨v', ⟨k1.blk h1.1 (blk_ne h1.1 h2.1 (by decide)) (own_of_type h2.2.2 h1.1 (by decide)), h1.2.1, k1.own h1.2.2 (own_ne h2.1 h1.2.2 (by decide)) ?_⟩, i1, fun k hk => ?_, b1, k1.blk h5 (blk_ne h5 h2.1 (by decide)) (own_of_type h2.2.2 h5 (by decide))⟩
  · rcases hv : vb.ownBlock with _ | k
    · exact .inl rfl
    · exact .inr fun e => h3 k hv e.symm
  · rcases a1 with a1 | ⟨b, a1, a2⟩
    · rw [a1]; exact h3 k hk
    · intro e
      have hlt := own_lt h1.2.2 k hk
      rw [a1] at e
      injection e with e
      omega

theorem inv_last {B : List Int} {last n Z : Int} {t : Nat} (h : Inv B last n Z t) : 0 ≤ last ∧ last < 256 := by
  obtain ⟨h0, h1, h2, h3, _⟩ := h
  have h7 : (2 : Nat) ^ n.toNat ≤ 2 ^ 7 := Nat.pow_le_pow_right (by omega) (by omega)
  have : ((2 ^ n.toNat : Nat) : Int) ≤ ((2 ^ 7 : Nat) : Int) := by omega
  have h8 : (2 : Int) ^ n.toNat ≤ 2 ^ 7 := by simpa using this
  omega
theorem inv_len {B : List Int} {last n Z : Int} {t : Nat} (h : Inv B last n Z t) : B.length ≤ t ∧ 8 * (B.length : Int) + n = (t : Int) := by
  obtain ⟨h0, h1, h2, h3, h4, h5, h6⟩ := h
  omega
theorem al_inv {B : List Int} {last n : Int} {Z t : Nat} (h : Inv B last n (Z : Int) t) : Inv (alW B last n).1 0 0 (Z : Int) ((t + 7) / 8 * 8) ∧ (alW B last n).2 = (0, 0) := by
  unfold alW
  by_cases hn : 0 < n
  · rw [if_pos hn]
    exact ⟨align_inv B last n Z t h hn, rfl⟩
  · rw [if_neg hn]
    have h0 : n = 0 := by have := h.1; omega
    obtain ⟨h1, h2, h3⟩ := align_inv0 B last n Z t h h0
    exact ⟨h1, by rw [h0, h2]⟩
theorem zlt_up {Z t t' : Nat} (h : Z < 2 ^ t) (ht : t ≤ t') : Z < 2 ^ t' := Nat.lt_of_lt_of_le h (Nat.pow_le_pow_right (by omega) ht)
theorem g28_all {l : List S28} (g0 : ∀ x ∈ l, G28 x) (k : Nat) (hk : k < l.length) : (0 ≤ (rd_T28 l (k : Int)).f0 ∧ (rd_T28 l (k : Int)).f0 < 256) ∧ 0 ≤ (rd_T28 l (k : Int)).f1 ∧ (rd_T28 l (k : Int)).f1 < 4294967296 := by
  have h := g0 _ (List.getElem_mem hk)
  have e : rd_T28 l (k : Int) = l[k] := by unfold rd_T28; rw [Int.toNat_natCast, List.getD_eq_getElem?_getD, List.getElem?_eq_getElem hk, Option.getD_some]
  rw [e]
  have h1 := h.1
  have h2 := h.2.1
  simp only [Lit.wf, IntKind.min, IntKind.max, IntKind.signed, IntKind.bits, Bool.and_eq_true, decide_eq_true_eq] at h1 h2
  simp at h1 h2
  omega
theorem cl_clamp2 (N : Int) : ((cl N : Nat) : Int) = (if 32 < (if N < 0 then 0 else N) then 32 else (if N < 0 then 0 else N)) := by
  unfold cl; split <;> split <;> omega

/-- One deed of each kind, done by both. -/
theorem put_both (g1 g2 gr : Nat) (vb vv : Value) (B : List Int) (last n : Int) (Z t x : Nat) (N : Int) (cs : Array Value) (w W : World) (h : WD w W g1 g2 gr vb B last n vv (bl Z t) cs) (hV : Inv B last n (Z : Int) t) (hx : x < 4294967296) (ht : t ≤ 100000) :
    Calls Try.prog 15 #[.pointer (some ⟨g1, 0, none⟩), .int .u32 (x : Int), .int .i64 N] W fun e W1 => e = .returned (.tuple #[]) ∧ ∃ vb' B' last' n', WD w W1 g1 g2 gr vb' B' last' n' vv (bl Z t) cs ∧ Inv B' last' n' ((Z + (x % 2 ^ cl N) * 2 ^ t : Nat) : Int) (t + cl N) := by
  have hM : ((cl N : Nat) : Int).toNat = cl N := Int.toNat_natCast _
  obtain ⟨P1, P2, P3, P4⟩ := put_inv B last n (Z : Int) t (x : Int) (cl N) hV (by omega) (by omega) (cl_le N)
  refine (put_walk g1 vb B last n (x : Int) N ((cl N : Nat) : Int) (last + ((x : Int) % 2 ^ cl N) * 2 ^ n.toNat) w W h.1 h.2.2.2.1 hV.1 hV.2.1 (cl_clamp2 N) (by rw [hM]; exact P1) (by omega) (by omega) P2 P3 (by have := inv_len hV; omega)).mono ?_
  rintro e W1 ⟨rfl, hp⟩
  obtain ⟨vb', h'⟩ := h.main hp
  refine ⟨rfl, vb', _, _, _, h', ?_⟩
  have hz : ((Z : Int) + (x : Int) % 2 ^ cl N * 2 ^ t) = ((Z + (x % 2 ^ cl N) * 2 ^ t : Nat) : Int) := by simp
  rw [← hz]
  exact P4
theorem rput_both (g1 g2 gr : Nat) (vb vv : Value) (B : List Int) (last n : Int) (Z t x : Nat) (N : Int) (cs : Array Value) (w W : World) (h : WD w W g1 g2 gr vb B last n vv (bl Z t) cs) (hZ : Z < 2 ^ t) (hx : x < 4294967296) (ht : t ≤ 100000) :
    Calls Try.prog 31 #[.pointer (some ⟨g2, 0, none⟩), .int .u32 (x : Int), .int .i64 N] W fun e W1 => e = .returned (.tuple #[]) ∧ ∃ vv', WD w W1 g1 g2 gr vb B last n vv' (bl (Z + (x % 2 ^ cl N) * 2 ^ t) (t + cl N)) cs := by
  refine (rput_walk g2 vv (bl Z t) x N w W h.2.1 h.2.2.2.1 hx (by rw [bl_len]; omega)).mono ?_
  rintro e W1 ⟨rfl, hp⟩
  rw [bl_app Z t x (cl N) hZ] at hp
  exact ⟨rfl, h.ref hp⟩
theorem align_both2 (g1 g2 gr : Nat) (vb vv : Value) (B : List Int) (last n : Int) (Z t : Nat) (L : List Int) (cs : Array Value) (w W : World) (h : WD w W g1 g2 gr vb B last n vv L cs) (hV : Inv B last n (Z : Int) t) (ht : t ≤ 100000) :
    Calls Try.prog 24 #[.pointer (some ⟨g1, 0, none⟩)] W fun e W1 => e = .returned (.tuple #[]) ∧ ∃ vb' B' last' n', WD w W1 g1 g2 gr vb' B' last' n' vv L cs ∧ Inv B' last' n' (Z : Int) ((t + 7) / 8 * 8) := by
  refine (walign_walk g1 vb B last n w W h.1 h.2.2.2.1 (inv_last hV).1 (inv_last hV).2 (by have := inv_len hV; omega)).mono ?_
  rintro e W1 ⟨rfl, hp⟩
  obtain ⟨vb', h'⟩ := h.main hp
  obtain ⟨a1, a2⟩ := al_inv hV
  refine ⟨rfl, vb', _, _, _, h', ?_⟩
  rw [a2]
  exact a1
theorem ralign_both2 (g1 g2 gr : Nat) (vb vv : Value) (B : List Int) (last n : Int) (Z t : Nat) (cs : Array Value) (w W : World) (h : WD w W g1 g2 gr vb B last n vv (bl Z t) cs) (hZ : Z < 2 ^ t) (ht : t ≤ 100000) :
    Calls Try.prog 32 #[.pointer (some ⟨g2, 0, none⟩)] W fun e W1 => e = .returned (.tuple #[]) ∧ ∃ vv', WD w W1 g1 g2 gr vb B last n vv' (bl Z ((t + 7) / 8 * 8)) cs := by
  refine (ralign_walk g2 vv Z t w W h.2.1 h.2.2.2.1 hZ (by omega)).mono ?_
  rintro e W1 ⟨rfl, hp⟩
  exact ⟨rfl, h.ref hp⟩
theorem write_both (g1 g2 gr : Nat) (vb vv : Value) (B : List Int) (last n : Int) (Z t ZS : Nat) (S : ByteArray) (L : List Int) (cs : Array Value) (w W : World) (h : WD w W g1 g2 gr vb B last n vv L cs) (hV : Inv B last n (Z : Int) t) (hS : S.size ≤ 50) (hZS : (ZS : Int) = NB (bytesOf S)) (ht : t ≤ 100000) :
    Calls Try.prog 25 #[.pointer (some ⟨g1, 0, none⟩), .string S] W fun e W1 => e = .returned (.tuple #[]) ∧ ∃ vb' B' last' n', WD w W1 g1 g2 gr vb' B' last' n' vv L cs ∧ Inv B' last' n' ((Z + ZS * 2 ^ ((t + 7) / 8 * 8) : Nat) : Int) ((t + 7) / 8 * 8 + 8 * S.size) := by
  refine (wwrite_walk g1 vb B last n S (by omega) w W h.1 h.2.2.2.1 (inv_last hV).1 (inv_last hV).2 (by have := inv_len hV; omega)).mono ?_
  rintro e W1 ⟨rfl, hp⟩
  obtain ⟨vb', h'⟩ := h.main hp
  obtain ⟨a1, a2⟩ := al_inv hV
  refine ⟨rfl, vb', _, _, _, h', ?_⟩
  rw [a2]
  exact write_inv _ Z _ S ZS hZS a1
theorem rwrite_both (g1 g2 gr : Nat) (vb vv : Value) (B : List Int) (last n : Int) (Z t ZS : Nat) (S : ByteArray) (cs : Array Value) (w W : World) (h : WD w W g1 g2 gr vb B last n vv (bl Z t) cs) (hZ : Z < 2 ^ t) (hS : S.size ≤ 50) (hZS : ∀ i, i < S.size → bt S (i : Int) = ((ZS / 256 ^ i % 256 : Nat) : Int)) (hZ2 : ZS < 2 ^ (8 * S.size)) (ht : t ≤ 100000) :
    Calls Try.prog 33 #[.pointer (some ⟨g2, 0, none⟩), .string S] W fun e W1 => e = .returned (.tuple #[]) ∧ ∃ vv', WD w W1 g1 g2 gr vb B last n vv' (bl (Z + ZS * 2 ^ ((t + 7) / 8 * 8)) ((t + 7) / 8 * 8 + 8 * S.size)) cs := by
  refine (rwrite_walk g2 vv Z t S ZS (by omega) hZS w W h.2.1 h.2.2.2.1 hZ (by omega)).mono ?_
  rintro e W1 ⟨rfl, hp⟩
  rw [bl_app Z _ ZS (8 * S.size) (zlt_up hZ (by omega)), Nat.mod_eq_of_lt hZ2] at hp
  exact ⟨rfl, h.ref hp⟩
def WN (w W : World) (g1 g2 : Nat) (vb : Value) (B : List Int) (last n : Int) (vv : Value) (L : List Int) : Prop :=
  IsW w W g1 vb B last n ∧ IsV w W g2 vv L ∧ (∀ k, vb.ownBlock = some k → vv.ownBlock ≠ some k) ∧ Below w.heap.size w W
theorem WN.deed {w W5 Wc : World} {g1 g2 gr : Nat} {vb vv : Value} {B L : List Int} {last n : Int} {cs0 cs : Array Value} (h : WN w W5 g1 g2 vb B last n vv L) (hb : W5.heap[gr]? = some (.cells cs0 28 (0, 0))) (hc : Wc.heap[gr]? = some (.cells cs 28 (0, 0))) (hk : KeepBut W5 Wc gr none) (hB : Below w.heap.size w Wc) :
    WD w Wc g1 g2 gr vb B last n vv L cs := by
  obtain ⟨h1, h2, h3, h4⟩ := h
  exact ⟨⟨hk.blk h1.1 (blk_ne h1.1 hb (by decide)) (by simp), h1.2.1, hk.own h1.2.2 (own_ne hb h1.2.2 (by decide)) (by cases vb.ownBlock <;> simp)⟩, ⟨hk.blk h2.1 (blk_ne h2.1 hb (by decide)) (by simp), h2.2.1, hk.own h2.2.2 (own_ne hb h2.2.2 (by decide)) (by cases vv.ownBlock <;> simp)⟩, h3, hB, hc⟩
theorem WD.toN {w W : World} {g1 g2 gr : Nat} {vb vv : Value} {B L : List Int} {last n : Int} {cs : Array Value} (h : WD w W g1 g2 gr vb B last n vv L cs) : WN w W g1 g2 vb B last n vv L := ⟨h.1, h.2.1, h.2.2.1, h.2.2.2.1⟩
theorem WN.drewN {w W : World} {g1 g2 : Nat} {vb vv : Value} {B L : List Int} {last n : Int} (h : WN w W g1 g2 vb B last n vv L) (m : Nat) : WN w (W.drewN m) g1 g2 vb B last n vv L :=
  ⟨h.1.drewN m, h.2.1.drewN m, h.2.2.1, pw_below_drewN h.2.2.2 m⟩
theorem WN.below {w W W1 : World} {g1 g2 : Nat} {vb vv : Value} {B L : List Int} {last n : Int} (h : WN w W g1 g2 vb B last n vv L) (hb : Below W.heap.size W W1) : WN w W1 g1 g2 vb B last n vv L :=
  ⟨h.1.below hb, h.2.1.below hb, h.2.2.1, below_step h.2.2.2 hb⟩

set_option maxHeartbeats 800000 in
set_option maxRecDepth 100000 in
theorem writes_great (A0 : Option Addr) (c0 : Nat) (l : List S28) (w : World) (hl : 60 < l.length) (hm : l.length ≤ maxLen) :
    Calls Try.prog 6 #[.slice A0 l.length c0] w fun e w' => e = .returned (.bool true) ∧ Below w.heap.size w w' := by
  unfold maxLen at hm
  have c2 : decide (60 < (l.length : Int)) = true := decide_eq_true (by omega)
  go_enter Try.func6, Try.ntmps6
  go_wp2_with fail
  refine (awake_bits w).mono ?_
  rintro e w1 ⟨rfl, hb⟩
  have HB := Aside0.mk hb
  clear hb
  go_wp2
  go_ret
  exact ⟨rfl, HB.out⟩

theorem own_C {W : World} {base : Nat} {A : Option Addr} {c : Nat} {xs : List Int} (h : W.ownsRow base 5 1 (.slice A xs.length c) xs.length (encs (Value.int .u8) xs)) : Kd.C (Kd.int .u8) W A xs.length xs :=
  Kd.C_of_reads (d := (0 : Int)) (own_reads_of' h)
theorem own_cap {W : World} {base : Nat} {A : Option Addr} {n c : Nat} {ys : List Value} (h : W.ownsRow base 5 1 (.slice A n c) n ys) : n ≤ c := by
  rcases h.2 with ⟨h, h2⟩ | ⟨k, cap, cur, h, _, _, h5, _⟩
  · omega
  · injection h with _ _ h3
    omega
set_option maxHeartbeats 3200000 in
set_option maxRecDepth 100000 in
theorem writes_small (A0 : Option Addr) (c00 : Nat) (l : List S28) (w : World) (hl : l.length ≤ 60) (hr0 : Kd.C k28 w A0 l.length l) (hc0 : l.length ≤ c00) (g0 : ∀ x ∈ l, G28 x) :
    Calls Try.prog 6 #[.slice A0 l.length c00] w fun e w' => e = .returned (.bool true) ∧ Below w.heap.size w w' := by
  have hu28 := Try.underlying28
  have hu50 := Try.underlying50
  have HR0 := Aside0.mk hr0
  have HC0 := Aside0.mk hc0
  have HG0 := Aside0.mk g0
  clear hr0 hc0 g0
  have c1 : decide (60 < (l.length : Int)) = false := decide_eq_false (by omega)
  go_enter Try.func6, Try.ntmps6
  go_wp2_with fail
  refine (awake_bits w).mono ?_
  rintro e w1 ⟨rfl, hb⟩
  have HB := Aside0.mk hb
  clear hb
  go_wp2_with fail
  refine (new_walk w w1 HB.out).mono ?_
  rintro e w2 ⟨g1, rfl, hI, _, hb⟩
  have HI := Aside0.mk hI
  have HB2 := Aside0.mk (below_step HB.out hb)
  clear hI hb HB
  go_wp2_with (first | ((with_reducible refine gate_dst (N := 14) rfl ?_); refine box_event rfl (N := 14) rfl (cs := #[.slice none 0 0]) (t := 50) (by first | (go_simp; done) | (go_simp; rfl)) ?_; intro g2 hg w3 hblk hb3; have BK2 := Aside0.mk hblk; have G2 := Aside0.mk hg; have HB3 := Aside0.mk hb3; clear hg hblk hb3))
  have ST0 := Aside0.mk (show WN w w3 g1 g2 (.slice none 0 0) [] 0 0 (.slice none 0 0) (bl 0 0) from ⟨HI.out.below HB3.out, ⟨BK2.out, by rw [G2.out]; exact below_size HB2.out, World.ownsRow_nil _ _ _ _⟩, by simp [Value.ownBlock], below_step HB2.out HB3.out⟩)
  clear HI HB2 BK2 G2 HB3
  go_loopw [6, 17] (fun v6 v17 wr => ∃ (j : Nat) (vb : Value) (B : List Int) (last n : Int) (Z t : Nat) (vv : Value), j ≤ l.length ∧ v17 = .int .i64 (j : Int) ∧ Aside0 (WN w wr g1 g2 vb B last n vv (bl Z t)) ∧ Aside0 (Inv B last n (Z : Int) t) ∧ Aside0 (Z < 2 ^ t ∧ t ≤ 500 * j)) (fun _ v17 _ => l.length - (intOf v17).toNat)
  case atStart => exact ⟨0, _, [], 0, 0, 0, 0, _, by omega, rfl, ST0, ⟨by omega, by omega, by omega, by decide, rfl, rfl, by simp⟩, ⟨by decide, by omega⟩⟩
  case round =>
    clear ST0
    obtain ⟨j, vb, B, last, n, Z, t, vv, hj, rfl, HS, HV, HZ⟩ := hrel
    by_cases hlt : j < l.length
    · have c0 : decide ((j : Int) < (l.length : Int)) = true := decide_eq_true (by omega)
      have p1 : 0 ≤ (j : Int) := by omega
      have q1 : (j : Int) < (l.length : Int) := by omega
      obtain ⟨ad, e1, hx0, hx1, hx2, hx3⟩ := at_T28 HR0.out (j : Int) p1 q1
      cases e1
      rw [Int.toNat_natCast] at hx0 hx1 hx2 hx3
      replace hx0 := (HS.out.2.2.2.cell (World.block_lt_of_cell? w _ hx0)).trans hx0
      replace hx1 := (HS.out.2.2.2.cell (World.block_lt_of_cell? w _ hx1)).trans hx1
      replace hx2 := (HS.out.2.2.2.cell (World.block_lt_of_cell? w _ hx2)).trans hx2
      replace hx3 := (HS.out.2.2.2.cell (World.block_lt_of_cell? w _ hx3)).trans hx3
      have hgx := g28_all HG0.out j hlt
      obtain ⟨x0, hX0⟩ : ∃ x, (rd_T28 l (j : Int)).f0 = x := ⟨_, rfl⟩
      obtain ⟨x1, hX1⟩ : ∃ x, (rd_T28 l (j : Int)).f1 = x := ⟨_, rfl⟩
      obtain ⟨N, hX2⟩ : ∃ x, (rd_T28 l (j : Int)).f2 = x := ⟨_, rfl⟩
      obtain ⟨x3, hX3⟩ : ∃ x, (rd_T28 l (j : Int)).f3 = x := ⟨_, rfl⟩
      rw [hX0] at hx0 hgx
      rw [hX1] at hx1 hgx
      rw [hX2] at hx2
      rw [hX3] at hx3
      obtain ⟨x, rfl⟩ : ∃ x : Nat, x1 = x := ⟨x1.toNat, by omega⟩
      clear hX0 hX1 hX2 hX3
      have XL := Aside0.mk (show x < 4294967296 by omega)
      have hk4 : Int.tmod x0 4 = 0 ∨ Int.tmod x0 4 = 1 ∨ Int.tmod x0 4 = 2 ∨ Int.tmod x0 4 = 3 := by rw [Int.tmod_eq_emod_of_nonneg hgx.1.1]; omega
      clear hgx
      by_cases h50 : 50 < x3.size
      · have d50 : decide (50 < (x3.size : Int)) = true := decide_eq_true (by omega)
        clear hk4
        go_wp2_with (first | ((with_reducible refine gate_dst (N := 6) rfl ?_); refine box_event rfl (N := 6) rfl (cs := #[.int .u8 0, .int .u32 0, .int .i64 0, .string ⟨#[]⟩]) (t := 28) (by first | (go_simp; done) | (go_simp; rfl)) ?_; intro gr hg w5 hblk hb3; have BR := Aside0.mk hblk; have z0 := (blk_cell hblk 0); have z1 := (blk_cell hblk 1); have z2 := (blk_cell hblk 2); have z3 := (blk_cell hblk 3); have y0 := blk_frozen hblk 0; have y1 := blk_frozen hblk 1; have y2 := blk_frozen hblk 2; have y3 := blk_frozen hblk 3; have HG := Aside0.mk hg; have HB5 := Aside0.mk hb3; clear hg hblk hb3))
        go_ret
        have hgr : w.heap.size ≤ gr := by rw [HG.out]; exact below_size HS.out.2.2.2
        exact ⟨rfl, below_set (below_set (below_set (below_set (below_step HS.out.2.2.2 HB5.out) hgr) hgr) hgr) hgr⟩
      · have d50 : decide (50 < (x3.size : Int)) = false := decide_eq_false (by omega)
        have X50 := Aside0.mk (show x3.size ≤ 50 by omega)
        clear h50
        rcases hk4 with t4 | t4 | t4 | t4
        all_goals
          go_wp2_with (first | ((with_reducible refine gate_dst (N := 6) rfl ?_); refine box_event rfl (N := 6) rfl (cs := #[.int .u8 0, .int .u32 0, .int .i64 0, .string ⟨#[]⟩]) (t := 28) (by first | (go_simp; done) | (go_simp; rfl)) ?_; intro gr hg w5 hblk hb3; have BR := Aside0.mk hblk; have z0 := (blk_cell hblk 0); have z1 := (blk_cell hblk 1); have z2 := (blk_cell hblk 2); have z3 := (blk_cell hblk 3); have y0 := blk_frozen hblk 0; have y1 := blk_frozen hblk 1; have y2 := blk_frozen hblk 2; have y3 := blk_frozen hblk 3; have HG := Aside0.mk hg; have HB5 := Aside0.mk hb3; clear hg hblk hb3))
          have KB := (((((KeepBut.refl w5 gr none).set_ 0 (.int .u8 x0)).set_ 1 (.int .u32 (x : Int))).set_ 2 (.int .i64 N)).set_ 3 (.string x3))
          have BR4 : ((((w5.setCell ⟨gr, 0, none⟩ (.int .u8 x0)).setCell ⟨gr, 1, none⟩ (.int .u32 (x : Int))).setCell ⟨gr, 2, none⟩ (.int .i64 N)).setCell ⟨gr, 3, none⟩ (.string x3)).heap[gr]? = some (.cells #[.int .u8 x0, .int .u32 (x : Int), .int .i64 N, .string x3] 28 (0, 0)) := by
            refine blk_put (cs := #[.int .u8 x0, .int .u32 (x : Int), .int .i64 N, .string ⟨#[]⟩]) ?_ 3 _ rfl
            refine blk_put (cs := #[.int .u8 x0, .int .u32 (x : Int), .int .i64 0, .string ⟨#[]⟩]) ?_ 2 _ rfl
            refine blk_put (cs := #[.int .u8 x0, .int .u32 0, .int .i64 0, .string ⟨#[]⟩]) ?_ 1 _ rfl
            refine blk_put (cs := #[.int .u8 0, .int .u32 0, .int .i64 0, .string ⟨#[]⟩]) ?_ 0 _ rfl
            exact BR.out
          have hgr : w.heap.size ≤ gr := by rw [HG.out]; exact below_size HS.out.2.2.2
          have HW := Aside0.mk (WN.deed (HS.out.below HB5.out) BR.out BR4 KB (below_set (below_set (below_set (below_set (below_step HS.out.2.2.2 HB5.out) hgr) hgr) hgr) hgr))
          clear KB BR4 hgr BR z0 z1 z2 z3 y0 y1 y2 y3 HS HG HB5 hx0 hx1 hx2 hx3
          generalize ((((w5.setCell ⟨gr, 0, none⟩ (.int .u8 x0)).setCell ⟨gr, 1, none⟩ (.int .u32 (x : Int))).setCell ⟨gr, 2, none⟩ (.int .i64 N)).setCell ⟨gr, 3, none⟩ (.string x3)) = Wc at HW ⊢
        · skip
          refine (put_both g1 g2 gr vb vv B last n Z t x N _ w _ HW.out HV.out XL.out (by have := HZ.out.2; omega)).mono ?_
          rintro e w6 ⟨rfl, vb6, B6, l6, n6, hw, hv⟩
          have HW6 := Aside0.mk hw
          have HV6 := Aside0.mk hv
          have k1 := (blk_cell hw.2.2.2.2 1).trans rfl
          have k2 := (blk_cell hw.2.2.2.2 2).trans rfl
          clear hw hv HW
          go_wp2_with fail
          refine (rput_both g1 g2 gr vb6 vv B6 l6 n6 Z t x N _ w _ HW6.out HZ.out.1 XL.out (by have := HZ.out.2; omega)).mono ?_
          rintro e w7 ⟨rfl, vv7, hw⟩
          obtain ⟨Z7, t7, hz7, ht7⟩ : ∃ Z7 t7, Z + x % 2 ^ cl N * 2 ^ t = Z7 ∧ t + cl N = t7 := ⟨_, _, rfl, rfl⟩
          have HZ7 := Aside0.mk (show Z7 < 2 ^ t7 ∧ t7 ≤ 500 * (j + 1) from ⟨by rw [← hz7, ← ht7]; exact put_lt Z t x (cl N) HZ.out.1, by have := HZ.out.2; have := cl_le N; omega⟩)
          rw [hz7, ht7] at hw HV6
          have HS7 := Aside0.mk hw.toN
          clear hw hz7 ht7 HW6 k1 k2
          clear HZ HV
          have hTW := text_walk g1 vb6 B6 l6 n6 w
          rw [text_is B6 l6 n6 Z7 t7 HV6.out] at hTW
          obtain ⟨kr, hkr⟩ := (rtext_is Z7 t7 (by have := HZ7.out.2; omega) HZ7.out.1).rounds
          have hLW := len_walk g1 vb6 B6 l6 n6 w
          have hll : (bl Z7 t7).length = t7 := bl_len _ _
          rw [show 8 * (B6.length : Int) + n6 = ((bl Z7 t7).length : Int) from by rw [hll]; exact (inv_len HV6.out).2] at hLW
          have hlb : (bl Z7 t7).length ≤ 100000 := by rw [hll]; have := HZ7.out.2; omega
          obtain ⟨L7, hL7⟩ : ∃ L, bl Z7 t7 = L := ⟨_, rfl⟩
          obtain ⟨T7, hT7⟩ : ∃ T, strOfNums (by8 Z7 ((t7 + 7) / 8)) = T := ⟨_, rfl⟩
          rw [hL7] at hkr hLW HS7 hlb
          rw [hT7] at hTW hkr
          have TW := Aside0.mk hTW
          have LW := Aside0.mk hLW
          have KR := Aside0.mk hkr
          have LB := Aside0.mk hlb
          have L7E := Aside0.mk hL7
          have BB := Aside0.mk (show B6.length ≤ 1000000000 from by have := (inv_len HV6.out).1; have := HZ7.out.2; omega)
          obtain ⟨A7, c7, hA7⟩ := own_form HS7.out.2.1.2.2
          subst hA7
          have hcv : w7.cell? ⟨g2, 0, none⟩ = some (.slice A7 L7.length c7) := (blk_cell HS7.out.2.1.1 0).trans rfl
          clear hTW hLW hkr hll hlb hL7 hT7
          go_wp2_with fail
          go_region_held3 (fun W => W.cell? ⟨g2, 0, none⟩ = some (.slice A7 L7.length c7)) (first | go_keep | assumption)
            (first
              | ((go_at_call 21; refine (LW.out _ (HS7.out.1.drewN 1) HV6.out.1 HV6.out.2.1 BB.out).mono ?_; rintro e w8 ⟨rfl, m8, rfl⟩))
              | ((go_at_call 17; refine (TW.out _ (HS7.out.1.drewN _) HV6.out.1 HV6.out.2.1 (inv_last HV6.out).1 (inv_last HV6.out).2 BB.out).mono ?_; rintro e w9 ⟨rfl, hb⟩; have HS9 := Aside0.mk ((HS7.out.drewN _).below hb); have kc9 := (blk_cell HS9.out.2.1.1 0).trans rfl; clear hb))
              | ((go_at_call 34; refine (montageref01_Text.calls kr A7 c7 L7 T7 _ (own_C HS9.out.2.1.2.2) (own_cap HS9.out.2.1.2.2) KR.out).mono ?_; rintro e w10 ⟨rfl, hb⟩; have HS10 := Aside0.mk (HS9.out.below hb); have kc10 := (blk_cell HS10.out.2.1.1 0).trans rfl; clear hb)))
          all_goals
            go_wp2
            go_roundw
            case rel => exact ⟨j + 1, vb6, B6, l6, n6, Z7, t7, _, by omega, by go_num, ⟨by rw [L7E.out]; exact HS10.out⟩, HV6, HZ7⟩
            case measure => simp [intOf]; omega
        · skip
          refine (put_both g1 g2 gr vb vv B last n Z t x N _ w _ HW.out HV.out XL.out (by have := HZ.out.2; omega)).mono ?_
          rintro e w6 ⟨rfl, vb6, B6, l6, n6, hw, hv⟩
          have HW6 := Aside0.mk hw
          have HV6 := Aside0.mk hv
          have k1 := (blk_cell hw.2.2.2.2 1).trans rfl
          have k2 := (blk_cell hw.2.2.2.2 2).trans rfl
          clear hw hv HW
          go_wp2_with fail
          refine (rput_both g1 g2 gr vb6 vv B6 l6 n6 Z t x N _ w _ HW6.out HZ.out.1 XL.out (by have := HZ.out.2; omega)).mono ?_
          rintro e w7 ⟨rfl, vv7, hw⟩
          obtain ⟨Z7, t7, hz7, ht7⟩ : ∃ Z7 t7, Z + x % 2 ^ cl N * 2 ^ t = Z7 ∧ t + cl N = t7 := ⟨_, _, rfl, rfl⟩
          have HZ7 := Aside0.mk (show Z7 < 2 ^ t7 ∧ t7 ≤ 500 * (j + 1) from ⟨by rw [← hz7, ← ht7]; exact put_lt Z t x (cl N) HZ.out.1, by have := HZ.out.2; have := cl_le N; omega⟩)
          rw [hz7, ht7] at hw HV6
          have HS7 := Aside0.mk hw.toN
          clear hw hz7 ht7 HW6 k1 k2
          clear HZ HV
          have hTW := text_walk g1 vb6 B6 l6 n6 w
          rw [text_is B6 l6 n6 Z7 t7 HV6.out] at hTW
          obtain ⟨kr, hkr⟩ := (rtext_is Z7 t7 (by have := HZ7.out.2; omega) HZ7.out.1).rounds
          have hLW := len_walk g1 vb6 B6 l6 n6 w
          have hll : (bl Z7 t7).length = t7 := bl_len _ _
          rw [show 8 * (B6.length : Int) + n6 = ((bl Z7 t7).length : Int) from by rw [hll]; exact (inv_len HV6.out).2] at hLW
          have hlb : (bl Z7 t7).length ≤ 100000 := by rw [hll]; have := HZ7.out.2; omega
          obtain ⟨L7, hL7⟩ : ∃ L, bl Z7 t7 = L := ⟨_, rfl⟩
          obtain ⟨T7, hT7⟩ : ∃ T, strOfNums (by8 Z7 ((t7 + 7) / 8)) = T := ⟨_, rfl⟩
          rw [hL7] at hkr hLW HS7 hlb
          rw [hT7] at hTW hkr
          have TW := Aside0.mk hTW
          have LW := Aside0.mk hLW
          have KR := Aside0.mk hkr
          have LB := Aside0.mk hlb
          have L7E := Aside0.mk hL7
          have BB := Aside0.mk (show B6.length ≤ 1000000000 from by have := (inv_len HV6.out).1; have := HZ7.out.2; omega)
          obtain ⟨A7, c7, hA7⟩ := own_form HS7.out.2.1.2.2
          subst hA7
          have hcv : w7.cell? ⟨g2, 0, none⟩ = some (.slice A7 L7.length c7) := (blk_cell HS7.out.2.1.1 0).trans rfl
          clear hTW hLW hkr hll hlb hL7 hT7
          go_wp2_with fail
          go_region_held3 (fun W => W.cell? ⟨g2, 0, none⟩ = some (.slice A7 L7.length c7)) (first | go_keep | assumption)
            (first
              | ((go_at_call 21; refine (LW.out _ (HS7.out.1.drewN 1) HV6.out.1 HV6.out.2.1 BB.out).mono ?_; rintro e w8 ⟨rfl, m8, rfl⟩))
              | ((go_at_call 17; refine (TW.out _ (HS7.out.1.drewN _) HV6.out.1 HV6.out.2.1 (inv_last HV6.out).1 (inv_last HV6.out).2 BB.out).mono ?_; rintro e w9 ⟨rfl, hb⟩; have HS9 := Aside0.mk ((HS7.out.drewN _).below hb); have kc9 := (blk_cell HS9.out.2.1.1 0).trans rfl; clear hb))
              | ((go_at_call 34; refine (montageref01_Text.calls kr A7 c7 L7 T7 _ (own_C HS9.out.2.1.2.2) (own_cap HS9.out.2.1.2.2) KR.out).mono ?_; rintro e w10 ⟨rfl, hb⟩; have HS10 := Aside0.mk (HS9.out.below hb); have kc10 := (blk_cell HS10.out.2.1.1 0).trans rfl; clear hb)))
          all_goals
            go_wp2
            go_roundw
            case rel => exact ⟨j + 1, vb6, B6, l6, n6, Z7, t7, _, by omega, by go_num, ⟨by rw [L7E.out]; exact HS10.out⟩, HV6, HZ7⟩
            case measure => simp [intOf]; omega
        · skip
          refine (align_both2 g1 g2 gr vb vv B last n Z t _ _ w _ HW.out HV.out (by have := HZ.out.2; omega)).mono ?_
          rintro e w6 ⟨rfl, vb6, B6, l6, n6, hw, hv⟩
          have HW6 := Aside0.mk hw
          have HV6 := Aside0.mk hv
          clear hw hv HW
          go_wp2_with fail
          refine (ralign_both2 g1 g2 gr vb6 vv B6 l6 n6 Z t _ w _ HW6.out HZ.out.1 (by have := HZ.out.2; omega)).mono ?_
          rintro e w7 ⟨rfl, vv7, hw⟩
          obtain ⟨Z7, t7, hz7, ht7⟩ : ∃ Z7 t7, Z = Z7 ∧ (t + 7) / 8 * 8 = t7 := ⟨_, _, rfl, rfl⟩
          have HZ7 := Aside0.mk (show Z7 < 2 ^ t7 ∧ t7 ≤ 500 * (j + 1) from ⟨by rw [← hz7, ← ht7]; exact zlt_up HZ.out.1 (by omega), by have := HZ.out.2; omega⟩)
          rw [hz7, ht7] at hw HV6
          have HS7 := Aside0.mk hw.toN
          clear hw hz7 ht7 HW6
          clear HZ HV
          have hTW := text_walk g1 vb6 B6 l6 n6 w
          rw [text_is B6 l6 n6 Z7 t7 HV6.out] at hTW
          obtain ⟨kr, hkr⟩ := (rtext_is Z7 t7 (by have := HZ7.out.2; omega) HZ7.out.1).rounds
          have hLW := len_walk g1 vb6 B6 l6 n6 w
          have hll : (bl Z7 t7).length = t7 := bl_len _ _
          rw [show 8 * (B6.length : Int) + n6 = ((bl Z7 t7).length : Int) from by rw [hll]; exact (inv_len HV6.out).2] at hLW
          have hlb : (bl Z7 t7).length ≤ 100000 := by rw [hll]; have := HZ7.out.2; omega
          obtain ⟨L7, hL7⟩ : ∃ L, bl Z7 t7 = L := ⟨_, rfl⟩
          obtain ⟨T7, hT7⟩ : ∃ T, strOfNums (by8 Z7 ((t7 + 7) / 8)) = T := ⟨_, rfl⟩
          rw [hL7] at hkr hLW HS7 hlb
          rw [hT7] at hTW hkr
          have TW := Aside0.mk hTW
          have LW := Aside0.mk hLW
          have KR := Aside0.mk hkr
          have LB := Aside0.mk hlb
          have L7E := Aside0.mk hL7
          have BB := Aside0.mk (show B6.length ≤ 1000000000 from by have := (inv_len HV6.out).1; have := HZ7.out.2; omega)
          obtain ⟨A7, c7, hA7⟩ := own_form HS7.out.2.1.2.2
          subst hA7
          have hcv : w7.cell? ⟨g2, 0, none⟩ = some (.slice A7 L7.length c7) := (blk_cell HS7.out.2.1.1 0).trans rfl
          clear hTW hLW hkr hll hlb hL7 hT7
          go_wp2_with fail
          go_region_held3 (fun W => W.cell? ⟨g2, 0, none⟩ = some (.slice A7 L7.length c7)) (first | go_keep | assumption)
            (first
              | ((go_at_call 21; refine (LW.out _ (HS7.out.1.drewN 1) HV6.out.1 HV6.out.2.1 BB.out).mono ?_; rintro e w8 ⟨rfl, m8, rfl⟩))
              | ((go_at_call 17; refine (TW.out _ (HS7.out.1.drewN _) HV6.out.1 HV6.out.2.1 (inv_last HV6.out).1 (inv_last HV6.out).2 BB.out).mono ?_; rintro e w9 ⟨rfl, hb⟩; have HS9 := Aside0.mk ((HS7.out.drewN _).below hb); have kc9 := (blk_cell HS9.out.2.1.1 0).trans rfl; clear hb))
              | ((go_at_call 34; refine (montageref01_Text.calls kr A7 c7 L7 T7 _ (own_C HS9.out.2.1.2.2) (own_cap HS9.out.2.1.2.2) KR.out).mono ?_; rintro e w10 ⟨rfl, hb⟩; have HS10 := Aside0.mk (HS9.out.below hb); have kc10 := (blk_cell HS10.out.2.1.1 0).trans rfl; clear hb)))
          all_goals
            go_wp2
            go_roundw
            case rel => exact ⟨j + 1, vb6, B6, l6, n6, Z7, t7, _, by omega, by go_num, ⟨by rw [L7E.out]; exact HS10.out⟩, HV6, HZ7⟩
            case measure => simp [intOf]; omega
        · skip
          obtain ⟨ZS, hs0, hs1, hs2⟩ := S_num2 x3
          have HN := Aside0.mk (And.intro hs0 (And.intro hs1 hs2))
          clear hs0 hs1 hs2
          refine (write_both g1 g2 gr vb vv B last n Z t ZS x3 _ _ w _ HW.out HV.out X50.out HN.out.1 (by have := HZ.out.2; omega)).mono ?_
          rintro e w6 ⟨rfl, vb6, B6, l6, n6, hw, hv⟩
          have HW6 := Aside0.mk hw
          have HV6 := Aside0.mk hv
          have k3 := (blk_cell hw.2.2.2.2 3).trans rfl
          clear hw hv HW
          go_wp2_with fail
          refine (rwrite_both g1 g2 gr vb6 vv B6 l6 n6 Z t ZS x3 _ w _ HW6.out HZ.out.1 X50.out HN.out.2.2 HN.out.2.1 (by have := HZ.out.2; omega)).mono ?_
          rintro e w7 ⟨rfl, vv7, hw⟩
          obtain ⟨Z7, t7, hz7, ht7⟩ : ∃ Z7 t7, Z + ZS * 2 ^ ((t + 7) / 8 * 8) = Z7 ∧ (t + 7) / 8 * 8 + 8 * x3.size = t7 := ⟨_, _, rfl, rfl⟩
          have HZ7 := Aside0.mk (show Z7 < 2 ^ t7 ∧ t7 ≤ 500 * (j + 1) from ⟨by rw [← hz7, ← ht7]; have := put_lt Z ((t + 7) / 8 * 8) ZS (8 * x3.size) (zlt_up HZ.out.1 (by omega)); rwa [Nat.mod_eq_of_lt HN.out.2.1] at this, by have := HZ.out.2; have := X50.out; omega⟩)
          rw [hz7, ht7] at hw HV6
          have HS7 := Aside0.mk hw.toN
          clear hw hz7 ht7 HW6 k3
          clear HZ HV
          have hTW := text_walk g1 vb6 B6 l6 n6 w
          rw [text_is B6 l6 n6 Z7 t7 HV6.out] at hTW
          obtain ⟨kr, hkr⟩ := (rtext_is Z7 t7 (by have := HZ7.out.2; omega) HZ7.out.1).rounds
          have hLW := len_walk g1 vb6 B6 l6 n6 w
          have hll : (bl Z7 t7).length = t7 := bl_len _ _
          rw [show 8 * (B6.length : Int) + n6 = ((bl Z7 t7).length : Int) from by rw [hll]; exact (inv_len HV6.out).2] at hLW
          have hlb : (bl Z7 t7).length ≤ 100000 := by rw [hll]; have := HZ7.out.2; omega
          obtain ⟨L7, hL7⟩ : ∃ L, bl Z7 t7 = L := ⟨_, rfl⟩
          obtain ⟨T7, hT7⟩ : ∃ T, strOfNums (by8 Z7 ((t7 + 7) / 8)) = T := ⟨_, rfl⟩
          rw [hL7] at hkr hLW HS7 hlb
          rw [hT7] at hTW hkr
          have TW := Aside0.mk hTW
          have LW := Aside0.mk hLW
          have KR := Aside0.mk hkr
          have LB := Aside0.mk hlb
          have L7E := Aside0.mk hL7
          have BB := Aside0.mk (show B6.length ≤ 1000000000 from by have := (inv_len HV6.out).1; have := HZ7.out.2; omega)
          obtain ⟨A7, c7, hA7⟩ := own_form HS7.out.2.1.2.2
          subst hA7
          have hcv : w7.cell? ⟨g2, 0, none⟩ = some (.slice A7 L7.length c7) := (blk_cell HS7.out.2.1.1 0).trans rfl
          clear hTW hLW hkr hll hlb hL7 hT7
          go_wp2_with fail
          go_region_held3 (fun W => W.cell? ⟨g2, 0, none⟩ = some (.slice A7 L7.length c7)) (first | go_keep | assumption)
            (first
              | ((go_at_call 21; refine (LW.out _ (HS7.out.1.drewN 1) HV6.out.1 HV6.out.2.1 BB.out).mono ?_; rintro e w8 ⟨rfl, m8, rfl⟩))
              | ((go_at_call 17; refine (TW.out _ (HS7.out.1.drewN _) HV6.out.1 HV6.out.2.1 (inv_last HV6.out).1 (inv_last HV6.out).2 BB.out).mono ?_; rintro e w9 ⟨rfl, hb⟩; have HS9 := Aside0.mk ((HS7.out.drewN _).below hb); have kc9 := (blk_cell HS9.out.2.1.1 0).trans rfl; clear hb))
              | ((go_at_call 34; refine (montageref01_Text.calls kr A7 c7 L7 T7 _ (own_C HS9.out.2.1.2.2) (own_cap HS9.out.2.1.2.2) KR.out).mono ?_; rintro e w10 ⟨rfl, hb⟩; have HS10 := Aside0.mk (HS9.out.below hb); have kc10 := (blk_cell HS10.out.2.1.1 0).trans rfl; clear hb)))
          all_goals
            go_wp2
            go_roundw
            case rel => exact ⟨j + 1, vb6, B6, l6, n6, Z7, t7, _, by omega, by go_num, ⟨by rw [L7E.out]; exact HS10.out⟩, HV6, HZ7⟩
            case measure => simp [intOf]; omega
    · have c9 : decide ((j : Int) < (l.length : Int)) = false := decide_eq_false (by omega)
      go_wp2
      go_ret
      exact ⟨rfl, HS.out.2.2.2⟩

theorem bitsWrites_walk (A0 : Option Addr) (c0 : Nat) (l : List S28) (w : World) (hr0 : Kd.C k28 w A0 l.length l) (hc0 : l.length ≤ c0) (hm0 : l.length ≤ maxLen) (y0 : l.length * 32 ≤ 140737488351232) (g0 : ∀ x ∈ l, G28 x) :
    Calls Try.prog 6 #[.slice A0 l.length c0] w fun e w' => e = .returned (.bool true) ∧ Below w.heap.size w w' := by
  by_cases h : l.length ≤ 60
  · exact writes_small A0 c0 l w h hr0 hc0 g0
  · exact writes_great A0 c0 l w (by omega) hm0
end Go.Proofs.Ytndcfccbicognaa.XBitsReads
