/- BitsReads: the walk of the law. It has no conditions. -/
import Derived.Test.YtndcfccbicognaaYBitsBytes
import Derived.Test.YtndcfccbicognaaYBitsWr
import Derived.Deep.RegionHeld3
import Derived.Deep.RegionWith
import Derived.Deep.DrawnRows
namespace Go.Proofs.Ytndcfccbicognaa.XBitsReads
set_option linter.unusedVariables false
set_option linter.unusedSimpArgs false
open Go.RowKit Go.Proofs.YtndcfccbicognaaW.PrintWords Go.Proofs.YtndcfccbicognaaW.PrintLast Go.Proofs.YtndcfccbicognaaW.PrintMore
attribute [local go_sem] max2_int min2_int max_two min_two max_three min_three max_four min_four
attribute [local go_sem ↓] Go.wp_at_zero Go.wp_at_succ

/-- The blocks below n alone. -/
def cutW (W : World) (n : Nat) : World := { W with heap := W.heap.extract 0 n }
theorem cut_size {W : World} {n : Nat} (h : n ≤ W.heap.size) : (cutW W n).heap.size = n := by simp [cutW]; omega
theorem cut_get {W : World} {n k : Nat} (h : k < n) : (cutW W n).heap[k]? = W.heap[k]? := by
  simp [cutW, Array.getElem?_extract]
  intro hk
  omega
theorem cut_below {W : World} {n : Nat} (h : n ≤ W.heap.size) : Below (cutW W n).heap.size (cutW W n) W := by
  rw [cut_size h]
  exact ⟨rfl, rfl, rfl, by rw [cut_size h]; exact h, fun k hk => (cut_get hk).symm⟩

/-- Both readers: the program's at p, the document's at q. -/
def ST (w w3 W : World) (g1 g2 : Nat) (A0 : Option Addr) (c0 : Nat) (b : List Int) (S : ByteArray) (p : Int) (bad : Bool) (q : Int) (qad : Bool) : Prop :=
  IsS84 w W g1 S p bad ∧ W.heap[g2]? = some (.cells #[.slice A0 b.length c0, .int .i64 q, .bool qad] 46 (0, 0)) ∧ KeepBut w3 W g1 none ∧ Below w.heap.size w W
/-- What stays all along. -/
def FX (w3 : World) (g1 g2 : Nat) (A0 : Option Addr) (c0 : Nat) (b : List Int) : Prop :=
  (∀ W', KeepBut w3 W' g1 none → Kd.C (Kd.int .u8) W' A0 b.length b) ∧ w3.heap.size ≤ g2 ∧ b.length ≤ c0
theorem ST.ne {w w3 W : World} {g1 g2 : Nat} {A0 : Option Addr} {c0 : Nat} {b : List Int} {S : ByteArray} {p q : Int} {bad qad : Bool} (h : ST w w3 W g1 g2 A0 c0 b S p bad q qad) : g1 ≠ g2 := blk_ne h.1.1 h.2.1 (by decide)
theorem ST.ref {w w3 W : World} {g1 g2 : Nat} {A0 : Option Addr} {c0 : Nat} {b : List Int} {S : ByteArray} {p q : Int} {bad qad : Bool} (h : ST w w3 W g1 g2 A0 c0 b S p bad q qad) (hF : FX w3 g1 g2 A0 c0 b) :
    XBitsRef.IsS46 (cutW W w3.heap.size) W g2 A0 c0 b q qad ∧ Below (cutW W w3.heap.size).heap.size (cutW W w3.heap.size) W := by
  obtain ⟨h1, h2, h3, h4⟩ := h
  obtain ⟨f1, f2, f3⟩ := hF
  have hs : w3.heap.size ≤ W.heap.size := h3.1
  refine ⟨⟨h2, ⟨by rw [cut_size hs]; exact f2, f3⟩, f1 _ ⟨by rw [cut_size hs]; exact Nat.le_refl _, fun i hi hne _ => ?_⟩⟩, cut_below hs⟩
  rw [cut_get hi]
  exact h3.2 i hi hne (by simp)
theorem ST.ref_back {w w3 W W' : World} {g1 g2 : Nat} {A0 : Option Addr} {c0 : Nat} {b : List Int} {S : ByteArray} {p q q' : Int} {bad qad qad' : Bool} (h : ST w w3 W g1 g2 A0 c0 b S p bad q qad) (hF : FX w3 g1 g2 A0 c0 b) {w0 : World}
    (hI : XBitsRef.IsS46 w0 W' g2 A0 c0 b q' qad') (hk : KeepBut W W' g2 none) (hb : Below w.heap.size w W') : ST w w3 W' g1 g2 A0 c0 b S p bad q' qad' := by
  have hne := h.ne
  obtain ⟨h1, h2, h3, h4⟩ := h
  refine ⟨⟨hk.blk h1.1 hne (by simp), h1.2⟩, hI.1, ⟨Nat.le_trans h3.1 hk.1, fun i hi hne _ => ?_⟩, hb⟩
  have := hF.2.1
  rw [hk.2 i (Nat.lt_of_lt_of_le hi h3.1) (by omega) (by simp)]
  exact h3.2 i hi hne (by simp)
theorem ST.below_ref {w w3 W W' : World} {g1 g2 : Nat} {A0 : Option Addr} {c0 : Nat} {b : List Int} {S : ByteArray} {p q : Int} {bad qad : Bool} (h : ST w w3 W g1 g2 A0 c0 b S p bad q qad) (hF : FX w3 g1 g2 A0 c0 b) (hw : w.heap.size ≤ w3.heap.size)
    (hb : Below (cutW W w3.heap.size).heap.size (cutW W w3.heap.size) W') : Below w.heap.size w W' := by
  have hs : w3.heap.size ≤ W.heap.size := h.2.2.1.1
  rw [cut_size hs] at hb
  have h5 : Below w.heap.size w (cutW W w3.heap.size) := ⟨h.2.2.2.os, h.2.2.2.tape, h.2.2.2.output, by rw [cut_size hs]; exact hw, fun k hk => by rw [cut_get (by omega)]; exact h.2.2.2.block k hk⟩
  exact h5.trans (hb.mono hw)
theorem ST.main_back {w w3 W W' : World} {g1 g2 : Nat} {A0 : Option Addr} {c0 : Nat} {b : List Int} {S : ByteArray} {p p' q : Int} {bad bad' qad : Bool} (h : ST w w3 W g1 g2 A0 c0 b S p bad q qad)
    (hI : IsS84 w W' g1 S p' bad') (hb : Below w.heap.size w W') (hk : KeepBut W W' g1 none) : ST w w3 W' g1 g2 A0 c0 b S p' bad' q qad :=
  ⟨hI, hk.blk h.2.1 h.ne.symm (by simp), h.2.2.1.trans hk (.inl rfl), hb⟩
theorem ST.keep {w w3 W W' : World} {g1 g2 g : Nat} {A0 : Option Addr} {c0 : Nat} {b : List Int} {S : ByteArray} {p q : Int} {bad qad : Bool} (h : ST w w3 W g1 g2 A0 c0 b S p bad q qad)
    (hk : KeepBut W W' g none) (hg : w3.heap.size ≤ g) (h1 : g1 ≠ g) (h2 : g2 ≠ g) (hb : Below w.heap.size w W') : ST w w3 W' g1 g2 A0 c0 b S p bad q qad := by
  refine ⟨⟨hk.blk h.1.1 h1 (by simp), h.1.2⟩, hk.blk h.2.1 h2 (by simp), ⟨Nat.le_trans h.2.2.1.1 hk.1, fun i hi hne _ => ?_⟩, hb⟩
  rw [hk.2 i (Nat.lt_of_lt_of_le hi h.2.2.1.1) (by omega) (by simp)]
  exact h.2.2.1.2 i hi hne (by simp)

set_option maxHeartbeats 400000 in
theorem at_quiet (w0 : World) (g : Nat) (S : ByteArray) (p : Int) (bad : Bool) (w : World) (hI : IsS84 w0 w g S p bad) :
    Calls Try.prog 20 #[.pointer (some ⟨g, 0, none⟩)] w fun e w' => e = .returned (.int .i64 p) ∧ ∃ m, w' = w.drewN m := by
  have hc1 := blk_cell hI.1 1
  clear hI
  go_enter Try.func20, Try.ntmps20
  go_wp2
  go_ret
  exact ⟨rfl, 0, rfl⟩
set_option maxHeartbeats 400000 in
theorem left_quiet (w0 : World) (g : Nat) (S : ByteArray) (p : Int) (bad : Bool) (w : World) (hI : IsS84 w0 w g S p bad) (hp : 0 ≤ p) (hp2 : p ≤ 10000) (hS : S.size ≤ 1000) :
    Calls Try.prog 22 #[.pointer (some ⟨g, 0, none⟩)] w fun e w' => e = .returned (.int .i64 (8 * S.size - p)) ∧ ∃ m, w' = w.drewN m := by
  have hc0 := blk_cell hI.1 0
  have hc1 := blk_cell hI.1 1
  clear hI
  go_enter Try.func22, Try.ntmps22
  go_wp2
  repeat (go_quiet (fail); try go_wp2)
  go_ret
  exact ⟨rfl, _, rfl⟩
theorem left_quiet2 (v : Int) (w0 : World) (g : Nat) (S : ByteArray) (p : Int) (bad : Bool) (w : World) (hI : IsS84 w0 w g S p bad) (hp : 0 ≤ p) (hp2 : p ≤ 10000) (hS : S.size ≤ 1000) (hv : 8 * (S.size : Int) - p = v) :
    Calls Try.prog 22 #[.pointer (some ⟨g, 0, none⟩)] w fun e w' => e = .returned (.int .i64 v) ∧ ∃ m, w' = w.drewN m := by
  subst hv
  exact left_quiet w0 g S p bad w hI hp hp2 hS
set_option maxHeartbeats 400000 in
theorem live_quiet (w0 : World) (g : Nat) (S : ByteArray) (p : Int) (bad : Bool) (w : World) (hI : IsS84 w0 w g S p bad) :
    Calls Try.prog 51 #[.pointer (some ⟨g, 0, none⟩)] w fun e w' => e = .returned (.bool (!bad)) ∧ ∃ m, w' = w.drewN m := by
  have hc2 := blk_cell hI.1 2
  clear hI
  go_enter Try.func51, Try.ntmps51
  go_wp2
  repeat (go_quiet (fail); try go_wp2)
  go_ret
  exact ⟨rfl, 0, rfl⟩
set_option maxHeartbeats 400000 in
theorem err_bad (w0 : World) (g : Nat) (S : ByteArray) (p : Int) (w : World) (hI : IsS84 w0 w g S p true) :
    Calls Try.prog 19 #[.pointer (some ⟨g, 0, none⟩)] w fun e w' => e = .returned (.int .i64 3) ∧ ∃ m, w' = w.drewN m := by
  have HI := Aside0.mk hI
  clear hI
  go_enter Try.func19, Try.ntmps19
  go_wp2_with fail
  refine (live_quiet w0 g S p _ w HI.out).mono ?_
  rintro e w' ⟨rfl, m, rfl⟩
  go_wp2
  go_ret
  exact ⟨rfl, m, rfl⟩
set_option maxHeartbeats 400000 in
theorem err_good (w0 : World) (g : Nat) (S : ByteArray) (p : Int) (w : World) (hI : IsS84 w0 w g S p false) :
    Calls Try.prog 19 #[.pointer (some ⟨g, 0, none⟩)] w fun e w' => e = .returned (.int .i64 0) ∧ ∃ m, w' = w.drewN m := by
  have HI := Aside0.mk hI
  clear hI
  go_enter Try.func19, Try.ntmps19
  go_wp2_with fail
  refine (live_quiet w0 g S p _ w HI.out).mono ?_
  rintro e w' ⟨rfl, m, rfl⟩
  go_wp2
  go_ret
  exact ⟨rfl, m, rfl⟩

/-- A deed of Bits: both answer alike, and stand alike. -/
theorem bits_both (S : ByteArray) (Z p : Nat) (bad : Bool) (n : Int) (hp : p ≤ 8 * S.size) (hS : S.size ≤ 100) (hZ : ∀ i, i < S.size → bt S (i : Int) = ((Z / 256 ^ i % 256 : Nat) : Int)) :
    ∃ (v : Int) (p' : Nat) (bad' : Bool) (k1 k2 : Nat), bits_Reader_Bits.f k1 S (p : Int) bad n = some (v, S, (p' : Int), bad') ∧ montageref01_Reader_Bits.f k2 (bl Z (8 * S.size)) (p : Int) bad n = some (v, (p' : Int), bad') ∧ p' ≤ 8 * S.size := by
  have hr : ∀ i, i < (bl Z (8 * S.size)).length → rd (bl Z (8 * S.size)) (i : Int) = ((Z / 2 ^ i % 2 : Nat) : Int) := fun i hi => bl_get _ _ _ (by rw [bl_len] at hi; exact hi)
  by_cases h : bad = true ∨ n < 0 ∨ 32 < n ∨ ((8 * S.size : Nat) : Int) - p < n
  · obtain ⟨k2, h2⟩ := (ref_fails (bl Z (8 * S.size)) p bad n (by rw [bl_len]; exact hp) (by rw [bl_len]; omega) (by rw [bl_len]; exact h)).rounds
    cases bad
    · obtain ⟨k1, h1⟩ := (fails S p n hp (by omega) (by rcases h with h | h | h | h <;> first | cases h | omega)).rounds
      exact ⟨0, p, true, k1, k2, h1, h2, hp⟩
    · obtain ⟨k1, h1⟩ := (dead S p n).rounds
      exact ⟨0, p, true, k1, k2, h1, h2, hp⟩
  · have hb : bad = false := by cases bad <;> simp_all
    subst hb
    obtain ⟨m, rfl⟩ : ∃ m : Nat, n = m := ⟨n.toNat, by omega⟩
    obtain ⟨k1, h1⟩ := (reads S Z p m (by omega) (by omega) (by omega) hZ).rounds
    obtain ⟨k2, h2⟩ := (ref_reads (bl Z (8 * S.size)) Z p m (by omega) (by rw [bl_len]; omega) (by rw [bl_len]; omega) hr).rounds
    exact ⟨_, p + m, false, k1, k2, h1, h2, by omega⟩
/-- A deed of Align. -/
theorem align_both (S : ByteArray) (b : List Int) (p : Nat) (bad : Bool) (hp : p ≤ 8 * S.size) (hS : S.size ≤ 100) :
    ∃ (p' : Nat), bits_Reader_Align.f S (p : Int) bad = some (S, (p' : Int), bad) ∧ montageref01_Reader_Align.f b (p : Int) bad = some ((p' : Int), bad) ∧ p' ≤ 8 * S.size := by
  rw [align_ok S p bad (by omega), ralign_ok b p bad (by omega)]
  cases bad
  · exact ⟨(p + 7) / 8 * 8, rfl, rfl, by omega⟩
  · exact ⟨p, rfl, rfl, hp⟩
/-- A deed of Bytes. -/
def RB (g : Nat) (A0 : Option Addr) (c0 : Nat) (b : List Int) (p : Nat) (bad : Bool) (n : Int) (v : ByteArray) (p' : Nat) (bad' : Bool) : Prop :=
  ∀ w0 w, XBitsRef.IsS46 w0 w g A0 c0 b (p : Int) bad → Below w0.heap.size w0 w → Calls Try.prog 30 #[.pointer (some ⟨g, 0, none⟩), .int .i64 n] w fun e w' => e = .returned (.string v) ∧ XBitsRef.IsS46 w0 w' g A0 c0 b (p' : Int) bad' ∧ Below w0.heap.size w0 w' ∧ KeepBut w w' g none
theorem bytes_both (S : ByteArray) (Z p : Nat) (bad : Bool) (n : Int) (g : Nat) (A0 : Option Addr) (c0 : Nat) (hp : p ≤ 8 * S.size) (hS : S.size ≤ 100) (hZ : ∀ i, i < S.size → bt S (i : Int) = ((Z / 256 ^ i % 256 : Nat) : Int)) :
    ∃ (v : ByteArray) (p' : Nat) (bad' : Bool), bits_Reader_Bytes.f S (p : Int) bad n = some (v, S, (p' : Int), bad') ∧ RB g A0 c0 (bl Z (8 * S.size)) p bad n v p' bad' ∧ p' ≤ 8 * S.size := by
  by_cases h : bad = true ∨ n < 0 ∨ (S.size : Int) - ((p + 7) / 8 : Nat) < n
  · refine ⟨_, p, true, bytes_fail S p bad n hS hp h, fun w0 w hI hB => ?_, hp⟩
    exact XBitsRef.rbytes_fail g A0 c0 (bl Z (8 * S.size)) p bad n w0 w hI hB (by omega) (by rw [bl_len]; omega) (by rcases h with h | h | h; exact .inl h; exact .inr (.inl h); exact .inr (.inr (by rw [bl_len]; omega))) (by rw [bl_len]; omega)
  · have hb : bad = false := by cases bad <;> simp_all
    subst hb
    obtain ⟨m, rfl⟩ : ∃ m : Nat, n = m := ⟨n.toNat, by omega⟩
    obtain ⟨k, hk⟩ := (ref_piece S Z ((p + 7) / 8) m hS hZ (by omega)).rounds
    refine ⟨_, 8 * ((p + 7) / 8 + m), false, bytes_ok S p _ m hS hp rfl (by omega), fun w0 w hI hB => ?_, by omega⟩
    exact XBitsRef.rbytes_ok k g A0 c0 (bl Z (8 * S.size)) p (m : Int) ((8 * ((p + 7) / 8) : Nat) : Int) ((8 * ((p + 7) / 8 + m) : Nat) : Int) _ w0 w hI hB (by omega) (by rw [bl_len]; omega) (by omega) (by omega) (by omega) (by rw [bl_len]; omega) (by rw [bl_len]; omega) (by rw [Int.toNat_natCast, Int.toNat_natCast]; exact hk)
theorem ST.drew {w w3 W : World} {g1 g2 : Nat} {A0 : Option Addr} {c0 : Nat} {b : List Int} {S : ByteArray} {p q : Int} {bad qad : Bool} (h : ST w w3 W g1 g2 A0 c0 b S p bad q qad) (m : Nat) : ST w w3 (W.drewN m) g1 g2 A0 c0 b S p bad q qad :=
  ⟨h.1.drewN m, h.2.1, keep_drewN h.2.2.1 m, pw_below_drewN h.2.2.2 m⟩
theorem g28_k {l : List S28} (g0 : ∀ x ∈ l, G28 x) (k : Nat) (hk : k < l.length) : 0 ≤ (rd_T28 l (k : Int)).f0 ∧ (rd_T28 l (k : Int)).f0 < 256 := by
  have h := (g0 _ (List.getElem_mem hk)).1
  have e : rd_T28 l (k : Int) = l[k] := by unfold rd_T28; rw [Int.toNat_natCast, List.getD_eq_getElem?_getD, List.getElem?_eq_getElem hk, Option.getD_some]
  rw [e]
  simp only [Lit.wf, IntKind.min, IntKind.max, IntKind.signed, IntKind.bits, Bool.and_eq_true, decide_eq_true_eq] at h
  simp at h
  omega
set_option maxHeartbeats 800000 in
set_option maxRecDepth 100000 in
theorem reads_great (A0 : Option Addr) (c0 : Nat) (s : ByteArray) (l : List S28) (w : World) (hl : 100 < s.size ∨ 60 < l.length) (hm : l.length ≤ maxLen) (hs : s.size ≤ 140737488351232) :
    Calls Try.prog 5 #[.string s, .slice A0 l.length c0] w fun e w' => e = .returned (.bool true) ∧ Below w.heap.size w w' := by
  unfold maxLen at hm
  by_cases h1 : 100 < s.size
  · have c1 : decide (100 < (s.size : Int)) = true := decide_eq_true (by omega)
    clear hl
    go_enter Try.func5, Try.ntmps5
    go_wp2_with fail
    refine (awake_bits w).mono ?_
    rintro e w1 ⟨rfl, hb⟩
    have HB := Aside0.mk hb
    clear hb
    go_wp2
    go_ret
    exact ⟨rfl, HB.out⟩
  · have c1 : decide (100 < (s.size : Int)) = false := decide_eq_false (by omega)
    have c2 : decide (60 < (l.length : Int)) = true := decide_eq_true (by omega)
    clear hl
    go_enter Try.func5, Try.ntmps5
    go_wp2_with fail
    refine (awake_bits w).mono ?_
    rintro e w1 ⟨rfl, hb⟩
    have HB := Aside0.mk hb
    clear hb
    go_wp2
    go_ret
    exact ⟨rfl, HB.out⟩

set_option maxHeartbeats 3200000 in
set_option maxRecDepth 100000 in
theorem reads_small (A0 : Option Addr) (c00 : Nat) (S : ByteArray) (l : List S28) (w : World) (hs : S.size ≤ 100) (hl : l.length ≤ 60) (hr0 : Kd.C k28 w A0 l.length l) (hc0 : l.length ≤ c00) (g0 : ∀ x ∈ l, G28 x) :
    Calls Try.prog 5 #[.string S, .slice A0 l.length c00] w fun e w' => e = .returned (.bool true) ∧ Below w.heap.size w w' := by
  have hu28 := Try.underlying28
  obtain ⟨Z, hZ0, hZ1, hZ⟩ := S_num2 S
  obtain ⟨kof, hof⟩ := (ref_of S Z (by omega) hZ).rounds
  have OF := Aside0.mk hof
  have HZ := Aside0.mk hZ
  have HR0 := Aside0.mk hr0
  have HC0 := Aside0.mk hc0
  have HG0 := Aside0.mk g0
  clear hr0 hc0 g0 hZ0 hZ1 hZ hof
  have c1 : decide (60 < (l.length : Int)) = false := decide_eq_false (by omega)
  have c2 : decide (100 < (S.size : Int)) = false := decide_eq_false (by omega)
  go_enter Try.func5, Try.ntmps5
  go_wp2_with fail
  refine (awake_bits w).mono ?_
  rintro e w1 ⟨rfl, hb⟩
  have HB := Aside0.mk hb
  clear hb
  go_wp2_with fail
  refine (bits_NewReader.calls S S 0 false w w1 HB.out rfl).mono ?_
  rintro e w2 ⟨g1, rfl, hR, hb, hb2⟩
  have HB2 := Aside0.mk hb
  have HR2 := Aside0.mk hR
  clear hR hb hb2 HB
  go_wp2_with fail
  refine (montageref01_Of.calls kof S (bl Z (8 * S.size)) w2 OF.out).mono ?_
  rintro e w3 ⟨v0, rfl, hO, hb⟩
  obtain ⟨b, hb2⟩ : ∃ b, bl Z (8 * S.size) = b := ⟨_, rfl⟩
  have BL := Aside0.mk (show b.length = 8 * S.size from by rw [← hb2, bl_len])
  have BG := Aside0.mk (show ∀ i, i < b.length → rd b (i : Int) = ((Z / 2 ^ i % 2 : Nat) : Int) from by rw [← hb2]; intro i hi; exact bl_get _ _ _ (by rw [bl_len] at hi; exact hi))
  rw [hb2] at hO
  have HB3 := Aside0.mk (below_step HB2.out hb)
  have HS3 := Aside0.mk (show w.heap.size ≤ w3.heap.size from Nat.le_trans (below_size HB2.out) (below_size hb))
  obtain ⟨A1, c1', rfl, hAc⟩ : ∃ A c, v0 = .slice A b.length c ∧ b.length ≤ c := by
    obtain ⟨inner, ho⟩ := Kd.R_own hO
    rcases ho.2 with ⟨h, h2⟩ | ⟨k, cap, cur, h, _, _, h5, _⟩
    · exact ⟨none, 0, by rw [h, h2], by omega⟩
    · exact ⟨_, _, h, h5⟩
  have g1lt : g1 < w2.heap.size := blk_lt HR2.out.1
  have F0 := Aside0.mk (show ∀ W', KeepBut w3 W' g1 none → Kd.C (Kd.int .u8) W' A1 b.length b from Kd.C_foot_own (Kd.R_mono (Kd.R_bound hO) (ok' := fun k => k ≠ g1) (fun k hk => by have := hk.2.1; omega)) (fun k hk => hk))
  have HR3 := Aside0.mk (HR2.out.below hb)
  have CA := Aside0.mk hAc
  have HZB := Aside0.mk hb2
  clear hO hb hb2 g1lt hAc HR2 HB2 OF
  have hb46 := Try.underlying46
  go_wp2_with (first | ((with_reducible refine gate_dst (N := 25) rfl ?_); refine box_event rfl (N := 25) rfl (cs := #[.slice A1 b.length c1', .int .i64 0, .bool false]) (t := 46) (by first | (go_simp; done) | (go_simp; rfl)) ?_; intro g2 hg w4 hblk hb3; have BK2 := Aside0.mk hblk; have G2 := Aside0.mk hg; have HB4 := Aside0.mk hb3; clear hg hblk hb3))
  have FX0 := Aside0.mk (show FX w3 g1 g2 A1 c1' b from ⟨F0.out, Nat.le_of_eq G2.out.symm, CA.out⟩)
  have ST0 := Aside0.mk (show ST w w3 w4 g1 g2 A1 c1' b S ((0 : Nat) : Int) false ((0 : Nat) : Int) false from ⟨HR3.out.below HB4.out, BK2.out, KeepBut.of_below HB4.out g1 none, below_step HB3.out HB4.out⟩)
  clear F0 G2 CA HR3 HB4 BK2 HB3
  go_loopw [8, 9, 28] (fun v8 v9 v28 wr => ∃ (j p : Nat) (bad : Bool), j ≤ l.length ∧ v28 = .int .i64 (j : Int) ∧ Aside0 (ST w w3 wr g1 g2 A1 c1' b S (p : Int) bad (p : Int) bad) ∧ Aside0 (p ≤ 8 * S.size)) (fun _ _ v28 _ => l.length - (intOf v28).toNat)
  case atStart => exact ⟨0, 0, false, by omega, rfl, ST0, ⟨by omega⟩⟩
  case round =>
    clear ST0
    obtain ⟨j, p, bad, hj, rfl, HS, HP⟩ := hrel
    by_cases hlt : j < l.length
    · have c0 : decide ((j : Int) < (l.length : Int)) = true := decide_eq_true (by omega)
      have p1 : 0 ≤ (j : Int) := by omega
      have q1 : (j : Int) < (l.length : Int) := by omega
      obtain ⟨ad, e1, hx0, hx1, hx2, hx3⟩ := at_T28 HR0.out (j : Int) p1 q1
      cases e1
      rw [Int.toNat_natCast] at hx0 hx1 hx2 hx3
      replace hx0 := (HS.out.2.2.2.cell (World.block_lt_of_cell? w _ hx0)).trans hx0
      replace hx1 := (HS.out.2.2.2.cell (World.block_lt_of_cell? w _ hx1)).trans hx1
      replace hx2 := (HS.out.2.2.2.cell (World.block_lt_of_cell? w _ hx2)).trans hx2
      replace hx3 := (HS.out.2.2.2.cell (World.block_lt_of_cell? w _ hx3)).trans hx3
      have hgx := g28_k HG0.out j hlt
      obtain ⟨x0, hX0⟩ : ∃ x, (rd_T28 l (j : Int)).f0 = x := ⟨_, rfl⟩
      obtain ⟨x1, hX1⟩ : ∃ x, (rd_T28 l (j : Int)).f1 = x := ⟨_, rfl⟩
      obtain ⟨N, hX2⟩ : ∃ x, (rd_T28 l (j : Int)).f2 = x := ⟨_, rfl⟩
      obtain ⟨x3, hX3⟩ : ∃ x, (rd_T28 l (j : Int)).f3 = x := ⟨_, rfl⟩
      rw [hX0] at hx0 hgx
      rw [hX1] at hx1
      rw [hX2] at hx2
      rw [hX3] at hx3
      clear hX0 hX1 hX2 hX3
      have X := Aside0.mk hgx
      have hk4 : Int.tmod x0 4 = 0 ∨ Int.tmod x0 4 = 1 ∨ Int.tmod x0 4 = 2 ∨ Int.tmod x0 4 = 3 := by rw [Int.tmod_eq_emod_of_nonneg hgx.1]; omega
      obtain ⟨v1, p1', bad1, k1, k2, hf1, hf2, hp1⟩ := bits_both S Z p bad N HP.out hs HZ.out
      obtain ⟨p2', hf3, hf4, hp2⟩ := align_both S b p bad HP.out hs
      obtain ⟨v3, p3', bad3, hf5, hf6, hp3⟩ := bytes_both S Z p bad N g2 A1 c1' HP.out hs HZ.out
      rw [HZB.out] at hf2 hf6
      have F1 := Aside0.mk hf1
      have F2 := Aside0.mk hf2
      have P1 := Aside0.mk hp1
      have F3 := Aside0.mk hf3
      have F4 := Aside0.mk hf4
      have P2 := Aside0.mk hp2
      have F5 := Aside0.mk hf5
      have F6 := Aside0.mk hf6
      have P3 := Aside0.mk hp3
      clear hgx hf1 hf2 hp1 hf3 hf4 hp2 hf5 hf6 hp3
      rcases hk4 with t4 | t4 | t4 | t4
      all_goals
        go_wp2_with (first | ((with_reducible refine gate_dst (N := 8) rfl ?_); refine box_event rfl (N := 8) rfl (cs := #[.int .u8 0, .int .u32 0, .int .i64 0, .string ⟨#[]⟩]) (t := 28) (by first | (go_simp; done) | (go_simp; rfl)) ?_; intro gr hg w5 hblk hb3; have BR := Aside0.mk hblk; have z0 := (blk_cell hblk 0); have z1 := (blk_cell hblk 1); have z2 := (blk_cell hblk 2); have z3 := (blk_cell hblk 3); have y0 := blk_frozen hblk 0; have y1 := blk_frozen hblk 1; have y2 := blk_frozen hblk 2; have y3 := blk_frozen hblk 3; have HG := Aside0.mk hg; have HB5 := Aside0.mk hb3; clear hg hblk hb3))
        have KB := (((((KeepBut.refl w5 gr none).set_ 0 (.int .u8 x0)).set_ 1 (.int .u32 x1)).set_ 2 (.int .i64 N)).set_ 3 (.string x3))
        have BR4 := Aside0.mk (show ((((w5.setCell ⟨gr, 0, none⟩ (.int .u8 x0)).setCell ⟨gr, 1, none⟩ (.int .u32 x1)).setCell ⟨gr, 2, none⟩ (.int .i64 N)).setCell ⟨gr, 3, none⟩ (.string x3)).heap[gr]? = some (.cells #[.int .u8 x0, .int .u32 x1, .int .i64 N, .string x3] 28 (0, 0)) from by
            refine blk_put (cs := #[.int .u8 x0, .int .u32 x1, .int .i64 N, .string ⟨#[]⟩]) ?_ 3 _ rfl
            refine blk_put (cs := #[.int .u8 x0, .int .u32 x1, .int .i64 0, .string ⟨#[]⟩]) ?_ 2 _ rfl
            refine blk_put (cs := #[.int .u8 x0, .int .u32 0, .int .i64 0, .string ⟨#[]⟩]) ?_ 1 _ rfl
            refine blk_put (cs := #[.int .u8 0, .int .u32 0, .int .i64 0, .string ⟨#[]⟩]) ?_ 0 _ rfl
            exact BR.out)
        have hgr : w3.heap.size ≤ gr := by rw [HG.out]; exact HS.out.2.2.1.1
        have HS5 := Aside0.mk (show ST w w3 w5 g1 g2 A1 c1' b S (p : Int) bad (p : Int) bad from ST.keep HS.out (KeepBut.of_below HB5.out gr none) hgr (by have := blk_lt HS.out.1.1; have := HG.out; omega) (by have := blk_lt HS.out.2.1; have := HG.out; omega) (below_step HS.out.2.2.2 HB5.out))
        have n1 : g1 ≠ gr := blk_ne HS5.out.1.1 BR.out (by decide)
        have n2 : g2 ≠ gr := blk_ne HS5.out.2.1 BR.out (by decide)
        have HW := Aside0.mk (show ST w w3 ((((w5.setCell ⟨gr, 0, none⟩ (.int .u8 x0)).setCell ⟨gr, 1, none⟩ (.int .u32 x1)).setCell ⟨gr, 2, none⟩ (.int .i64 N)).setCell ⟨gr, 3, none⟩ (.string x3)) g1 g2 A1 c1' b S (p : Int) bad (p : Int) bad from ST.keep HS5.out KB hgr n1 n2 (by have := HS3.out; exact below_set (below_set (below_set (below_set HS5.out.2.2.2 (by omega)) (by omega)) (by omega)) (by omega)))
        have N1 := Aside0.mk n1
        have N2 := Aside0.mk n2
        clear KB hgr n1 n2 BR z0 z1 z2 z3 y0 y1 y2 y3 HS5 HS HG HB5 hx0 hx1 hx2 hx3
        generalize ((((w5.setCell ⟨gr, 0, none⟩ (.int .u8 x0)).setCell ⟨gr, 1, none⟩ (.int .u32 x1)).setCell ⟨gr, 2, none⟩ (.int .i64 N)).setCell ⟨gr, 3, none⟩ (.string x3)) = Wc at BR4 HW ⊢
        have kN : Wc.cell? ⟨gr, 2, none⟩ = some (.int .i64 N) := (blk_cell BR4.out 2).trans rfl
      · skip
        go_region_held3 (fun W => W.cell? ⟨gr, 2, none⟩ = some (.int .i64 N)) (first | go_keep | assumption)
          (first
            | ((go_at_call 18; refine (bits_Reader_Bits.calls k1 g1 S (p : Int) bad N v1 S (p1' : Int) bad1 w Wc.drew (HW.out.drew 1).1 (HW.out.drew 1).2.2.2 F1.out).mono ?_; rintro e w6 ⟨rfl, hR, hb, hk⟩; have k6 : w6.cell? ⟨gr, 2, none⟩ = some (.int .i64 N) := keep_cell hk kN (fun e => N1.out e.symm); have HS6 := Aside0.mk ((HW.out.drew 1).main_back hR hb hk); clear hR hb hk))
            | ((go_at_call 28; refine (XBitsRef.rbits_calls k2 g2 A1 c1' b (p : Int) bad N v1 (p1' : Int) bad1 _ _ (HS6.out.ref FX0.out).1 (HS6.out.ref FX0.out).2 F2.out).mono ?_; rintro e w7 ⟨rfl, hR, hb, hk⟩; have k7 : w7.cell? ⟨gr, 2, none⟩ = some (.int .i64 N) := keep_cell hk k6 (fun e => N2.out e.symm); have HS7 := Aside0.mk (HS6.out.ref_back FX0.out hR hk (HS6.out.below_ref FX0.out HS3.out hb)); clear hR hb hk)))
        all_goals (have HP7 := Aside0.mk P1.out)
        all_goals (obtain ⟨p7, bad7, hp7, hb7⟩ : ∃ (p7 : Nat) (b7 : Bool), p1' = p7 ∧ bad1 = b7 := ⟨_, _, rfl, rfl⟩)
        all_goals (rw [hp7] at HP7 HS7; rw [hb7] at HS7; clear hp7 hb7)
        all_goals
          go_wp2_with fail
          clear HW kN BR4
          have hc0 := (blk_cell HS7.out.2.1 0)
          have hc1 := (blk_cell HS7.out.2.1 1)
          have hc2 := (blk_cell HS7.out.2.1 2)
          have b1 : 0 ≤ (p7 : Int) := by omega
          have b2 : (p7 : Int) ≤ 1000 := by have := HP7.out; omega
          have b3 : (b.length : Int) ≤ 1000 := by have := BL.out; omega
          have lf : (8 * (S.size : Int) - (p7 : Int)) = (b.length : Int) - (p7 : Int) := by have := BL.out; omega
          have LF := Aside0.mk lf
          clear lf
          cases bad7
        all_goals
          go_quiet ((first
            | (go_at_call 20; exact Calls.quiet_of (at_quiet w g1 S (p7 : Int) _ _ (HS7.out.1.drewN _)))
            | (go_at_call 22; exact Calls.quiet_of (left_quiet2 ((b.length : Int) - (p7 : Int)) w g1 S (p7 : Int) _ _ (HS7.out.1.drewN _) (by omega) (by omega) (by omega) LF.out))
            | (go_at_call 19; exact Calls.quiet_of (err_good w g1 S (p7 : Int) _ (HS7.out.1.drewN _)))
            | (go_at_call 19; exact Calls.quiet_of (err_bad w g1 S (p7 : Int) _ (HS7.out.1.drewN _)))))
        all_goals
          go_wp2
          go_roundw
          case rel => exact ⟨j + 1, p7, _, by omega, by go_num, ⟨HS7.out.drew _⟩, HP7⟩
          case measure => simp [intOf]; omega
      · skip
        go_region_held3 (fun W => W.cell? ⟨gr, 2, none⟩ = some (.int .i64 N)) (first | go_keep | assumption)
          (first
            | ((go_at_call 18; refine (bits_Reader_Bits.calls k1 g1 S (p : Int) bad N v1 S (p1' : Int) bad1 w Wc.drew (HW.out.drew 1).1 (HW.out.drew 1).2.2.2 F1.out).mono ?_; rintro e w6 ⟨rfl, hR, hb, hk⟩; have k6 : w6.cell? ⟨gr, 2, none⟩ = some (.int .i64 N) := keep_cell hk kN (fun e => N1.out e.symm); have HS6 := Aside0.mk ((HW.out.drew 1).main_back hR hb hk); clear hR hb hk))
            | ((go_at_call 28; refine (XBitsRef.rbits_calls k2 g2 A1 c1' b (p : Int) bad N v1 (p1' : Int) bad1 _ _ (HS6.out.ref FX0.out).1 (HS6.out.ref FX0.out).2 F2.out).mono ?_; rintro e w7 ⟨rfl, hR, hb, hk⟩; have k7 : w7.cell? ⟨gr, 2, none⟩ = some (.int .i64 N) := keep_cell hk k6 (fun e => N2.out e.symm); have HS7 := Aside0.mk (HS6.out.ref_back FX0.out hR hk (HS6.out.below_ref FX0.out HS3.out hb)); clear hR hb hk)))
        all_goals (have HP7 := Aside0.mk P1.out)
        all_goals (obtain ⟨p7, bad7, hp7, hb7⟩ : ∃ (p7 : Nat) (b7 : Bool), p1' = p7 ∧ bad1 = b7 := ⟨_, _, rfl, rfl⟩)
        all_goals (rw [hp7] at HP7 HS7; rw [hb7] at HS7; clear hp7 hb7)
        all_goals
          go_wp2_with fail
          clear HW kN BR4
          have hc0 := (blk_cell HS7.out.2.1 0)
          have hc1 := (blk_cell HS7.out.2.1 1)
          have hc2 := (blk_cell HS7.out.2.1 2)
          have b1 : 0 ≤ (p7 : Int) := by omega
          have b2 : (p7 : Int) ≤ 1000 := by have := HP7.out; omega
          have b3 : (b.length : Int) ≤ 1000 := by have := BL.out; omega
          have lf : (8 * (S.size : Int) - (p7 : Int)) = (b.length : Int) - (p7 : Int) := by have := BL.out; omega
          have LF := Aside0.mk lf
          clear lf
          cases bad7
        all_goals
          go_quiet ((first
            | (go_at_call 20; exact Calls.quiet_of (at_quiet w g1 S (p7 : Int) _ _ (HS7.out.1.drewN _)))
            | (go_at_call 22; exact Calls.quiet_of (left_quiet2 ((b.length : Int) - (p7 : Int)) w g1 S (p7 : Int) _ _ (HS7.out.1.drewN _) (by omega) (by omega) (by omega) LF.out))
            | (go_at_call 19; exact Calls.quiet_of (err_good w g1 S (p7 : Int) _ (HS7.out.1.drewN _)))
            | (go_at_call 19; exact Calls.quiet_of (err_bad w g1 S (p7 : Int) _ (HS7.out.1.drewN _)))))
        all_goals
          go_wp2
          go_roundw
          case rel => exact ⟨j + 1, p7, _, by omega, by go_num, ⟨HS7.out.drew _⟩, HP7⟩
          case measure => simp [intOf]; omega
      · skip
        refine (bits_Reader_Align.calls g1 S (p : Int) bad S (p2' : Int) bad w Wc HW.out.1 HW.out.2.2.2 F3.out).mono ?_
        rintro e w6 ⟨rfl, hR, hb, hk⟩
        have HS6 := Aside0.mk (HW.out.main_back hR hb hk)
        clear hR hb hk
        go_wp2_with fail
        refine (XBitsRef.ralign_calls g2 A1 c1' b (p : Int) bad (p2' : Int) bad _ _ (HS6.out.ref FX0.out).1 (HS6.out.ref FX0.out).2 F4.out).mono ?_
        rintro e w7 ⟨rfl, hR, hb, hk⟩
        have HS7 := Aside0.mk (HS6.out.ref_back FX0.out hR hk (HS6.out.below_ref FX0.out HS3.out hb))
        clear hR hb hk
        have HP7 := Aside0.mk P2.out
        obtain ⟨p7, bad7, hp7, hb7⟩ : ∃ (p7 : Nat) (b7 : Bool), p2' = p7 ∧ bad = b7 := ⟨_, _, rfl, rfl⟩
        rw [hp7] at HP7 HS7; rw [hb7] at HS7; clear hp7 hb7
        all_goals
          go_wp2_with fail
          clear HW kN BR4
          have hc0 := (blk_cell HS7.out.2.1 0)
          have hc1 := (blk_cell HS7.out.2.1 1)
          have hc2 := (blk_cell HS7.out.2.1 2)
          have b1 : 0 ≤ (p7 : Int) := by omega
          have b2 : (p7 : Int) ≤ 1000 := by have := HP7.out; omega
          have b3 : (b.length : Int) ≤ 1000 := by have := BL.out; omega
          have lf : (8 * (S.size : Int) - (p7 : Int)) = (b.length : Int) - (p7 : Int) := by have := BL.out; omega
          have LF := Aside0.mk lf
          clear lf
          cases bad7
        all_goals
          go_quiet ((first
            | (go_at_call 20; exact Calls.quiet_of (at_quiet w g1 S (p7 : Int) _ _ (HS7.out.1.drewN _)))
            | (go_at_call 22; exact Calls.quiet_of (left_quiet2 ((b.length : Int) - (p7 : Int)) w g1 S (p7 : Int) _ _ (HS7.out.1.drewN _) (by omega) (by omega) (by omega) LF.out))
            | (go_at_call 19; exact Calls.quiet_of (err_good w g1 S (p7 : Int) _ (HS7.out.1.drewN _)))
            | (go_at_call 19; exact Calls.quiet_of (err_bad w g1 S (p7 : Int) _ (HS7.out.1.drewN _)))))
        all_goals
          go_wp2
          go_roundw
          case rel => exact ⟨j + 1, p7, _, by omega, by go_num, ⟨HS7.out.drew _⟩, HP7⟩
          case measure => simp [intOf]; omega
      · skip
        go_region_held3 (fun W => W.cell? ⟨gr, 2, none⟩ = some (.int .i64 N)) (first | go_keep | assumption)
          (first
            | ((go_at_call 26; refine (bits_Reader_Bytes.calls g1 S (p : Int) bad N v3 S (p3' : Int) bad3 w Wc.drew (HW.out.drew 1).1 (HW.out.drew 1).2.2.2 F5.out).mono ?_; rintro e w6 ⟨rfl, hR, hb, hk⟩; have k6 : w6.cell? ⟨gr, 2, none⟩ = some (.int .i64 N) := keep_cell hk kN (fun e => N1.out e.symm); have HS6 := Aside0.mk ((HW.out.drew 1).main_back hR hb hk); clear hR hb hk))
            | ((go_at_call 30; refine (F6.out _ _ (HS6.out.ref FX0.out).1 (HS6.out.ref FX0.out).2).mono ?_; rintro e w7 ⟨rfl, hR, hb, hk⟩; have k7 : w7.cell? ⟨gr, 2, none⟩ = some (.int .i64 N) := keep_cell hk k6 (fun e => N2.out e.symm); have HS7 := Aside0.mk (HS6.out.ref_back FX0.out hR hk (HS6.out.below_ref FX0.out HS3.out hb)); clear hR hb hk)))
        all_goals (have HP7 := Aside0.mk P3.out)
        all_goals (obtain ⟨p7, bad7, hp7, hb7⟩ : ∃ (p7 : Nat) (b7 : Bool), p3' = p7 ∧ bad3 = b7 := ⟨_, _, rfl, rfl⟩)
        all_goals (rw [hp7] at HP7 HS7; rw [hb7] at HS7; clear hp7 hb7)
        all_goals
          go_wp2_with fail
          clear HW kN BR4
          have hc0 := (blk_cell HS7.out.2.1 0)
          have hc1 := (blk_cell HS7.out.2.1 1)
          have hc2 := (blk_cell HS7.out.2.1 2)
          have b1 : 0 ≤ (p7 : Int) := by omega
          have b2 : (p7 : Int) ≤ 1000 := by have := HP7.out; omega
          have b3 : (b.length : Int) ≤ 1000 := by have := BL.out; omega
          have lf : (8 * (S.size : Int) - (p7 : Int)) = (b.length : Int) - (p7 : Int) := by have := BL.out; omega
          have LF := Aside0.mk lf
          clear lf
          cases bad7
        all_goals
          go_quiet ((first
            | (go_at_call 20; exact Calls.quiet_of (at_quiet w g1 S (p7 : Int) _ _ (HS7.out.1.drewN _)))
            | (go_at_call 22; exact Calls.quiet_of (left_quiet2 ((b.length : Int) - (p7 : Int)) w g1 S (p7 : Int) _ _ (HS7.out.1.drewN _) (by omega) (by omega) (by omega) LF.out))
            | (go_at_call 19; exact Calls.quiet_of (err_good w g1 S (p7 : Int) _ (HS7.out.1.drewN _)))
            | (go_at_call 19; exact Calls.quiet_of (err_bad w g1 S (p7 : Int) _ (HS7.out.1.drewN _)))))
        all_goals
          go_wp2
          go_roundw
          case rel => exact ⟨j + 1, p7, _, by omega, by go_num, ⟨HS7.out.drew _⟩, HP7⟩
          case measure => simp [intOf]; omega
    · have hk2 : j = l.length := by omega
      have c9 : decide ((j : Int) < (l.length : Int)) = false := decide_eq_false (by omega)
      go_wp2
      go_ret
      exact ⟨rfl, HS.out.2.2.2⟩

theorem bitsReads_walk (S : ByteArray) (A0 : Option Addr) (c0 : Nat) (l : List S28) (w : World) (hs : S.size ≤ 140737488351232) (hr0 : Kd.C k28 w A0 l.length l) (hc0 : l.length ≤ c0) (hm0 : l.length ≤ maxLen) (y0 : l.length * 32 ≤ 140737488351232) (g0 : ∀ x ∈ l, G28 x) :
    Calls Try.prog 5 #[.string S, .slice A0 l.length c0] w fun e w' => e = .returned (.bool true) ∧ Below w.heap.size w w' := by
  by_cases h : S.size ≤ 100 ∧ l.length ≤ 60
  · exact reads_small A0 c0 S l w h.1 h.2 hr0 hc0 g0
  · exact reads_great A0 c0 S l w (by omega) hm0 hs
end Go.Proofs.Ytndcfccbicognaa.XBitsReads
