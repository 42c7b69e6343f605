/- BitsBack: the walk of the law. It has no conditions. -/
import Derived.Test.YtndcfccbicognaaYBitsNum
import Derived.Deep.RegionHeld3
import Derived.Deep.RegionWith
namespace Go.Proofs.Ytndcfccbicognaa.XBitsReads
set_option linter.unusedVariables false
set_option linter.unusedSimpArgs false
open Go.RowKit Go.Proofs.YtndcfccbicognaaW.PrintWords Go.Proofs.YtndcfccbicognaaW.PrintLast Go.Proofs.YtndcfccbicognaaW.PrintMore
attribute [local go_sem] max2_int min2_int max_two min_two max_three min_three max_four min_four

set_option maxHeartbeats 800000 in
set_option maxRecDepth 100000 in
theorem back_great (A0 : Option Addr) (c0 : Nat) (l : List S28) (w : World) (hl : 60 < l.length) (hm : l.length ≤ maxLen) :
    Calls Try.prog 3 #[.slice A0 l.length c0] w fun e w' => e = .returned (.bool true) ∧ Below w.heap.size w w' := by
  unfold maxLen at hm
  have c1 : decide (60 < (l.length : Int)) = true := decide_eq_true (by omega)
  go_enter Try.func3, Try.ntmps3
  go_wp2_with fail
  refine (awake_bits w).mono ?_
  rintro e w1 ⟨rfl, hb⟩
  have HB := Aside0.mk hb
  clear hb
  go_wp2
  go_ret
  exact ⟨rfl, HB.out⟩

theorem g28_rd {l : List S28} (g0 : ∀ x ∈ l, G28 x) (k : Nat) (hk : k < l.length) : 0 ≤ (rd_T28 l (k : Int)).f1 ∧ (rd_T28 l (k : Int)).f1 < 4294967296 := by
  have h := (g0 _ (List.getElem_mem hk)).2.1
  have e : rd_T28 l (k : Int) = l[k] := by unfold rd_T28; rw [Int.toNat_natCast, List.getD_eq_getElem?_getD, List.getElem?_eq_getElem hk, Option.getD_some]
  rw [e]
  simp only [Lit.wf, IntKind.min, IntKind.max, IntKind.signed, IntKind.bits, Bool.and_eq_true, decide_eq_true_eq] at h
  simp at h
  omega
theorem ev_ex {α : Type} {g : Nat → Option α} {r : α} (h : Ev g r) : ∃ k, g k = some r := h.rounds
theorem cl_clamp (N : Int) : ((cl N : Nat) : Int) = (if 32 < (if N < 0 then 0 else N) then 32 else (if N < 0 then 0 else N)) := by
  unfold cl; split <;> split <;> omega
theorem cl_same (N : Int) (h0 : 0 ≤ N) (h1 : N ≤ 32) : N = if 32 < (if N < 0 then 0 else N) then 32 else (if N < 0 then 0 else N) := by
  split <;> split <;> omega

theorem back_nums (B : List Int) (S : ByteArray) (n : Int) (t : Nat) (h5 : 8 * B.length + n.toNat = t) (h0 : 0 ≤ n) (h8 : n < 8) (h1 : t ≤ 8 * S.size) (h2 : 8 * S.size < t + 8) (h3 : S.size ≤ 1000000) :
    8 * (B.length : Int) + n = (t : Int) ∧ wrap64 (wrap64 (8 * (S.size : Int)) - (t : Int)) = 8 * (S.size : Int) - (t : Int) ∧ 8 * (S.size : Int) - (t : Int) < 8 := by
  refine ⟨by omega, ?_, by omega⟩
  rw [w64 (x := 8 * (S.size : Int)) (by omega) (by omega), w64 (by omega) (by omega)]
theorem vs_and (l : List S28) (j : Nat) (x1 x2 : Int) (h1 : (rd_T28 l (j : Int)).f1 = x1) (h2 : (rd_T28 l (j : Int)).f2 = x2) (h0 : 0 ≤ x1) (hx : x1 < 4294967296) :
    bits BinOp.and IntKind.u64 x1 (IntKind.u64.wrap (IntKind.u64.wrap (2 ^ cl x2) - 1)) = ((vs l j : Nat) : Int) ∧ ((vs l j : Nat) : Int) < 4294967296 := by
  obtain ⟨q, rfl⟩ : ∃ q : Nat, x1 = q := ⟨x1.toNat, by omega⟩
  have hM2 : 2 ^ cl x2 ≤ 2 ^ 32 := Nat.pow_le_pow_right (by omega) (cl_le x2)
  have hM3 : 0 < 2 ^ cl x2 := Nat.two_pow_pos _
  have e1 : (2 : Int) ^ cl x2 = ((2 ^ cl x2 : Nat) : Int) := by simp
  have ev : vs l j = q % 2 ^ cl x2 := by rw [vs, h1, h2, Int.toNat_natCast]
  refine ⟨?_, ?_⟩
  · rw [e1, wrap64u _ (by omega), show ((2 ^ cl x2 : Nat) : Int) - 1 = ((2 ^ cl x2 - 1 : Nat) : Int) from by omega, wrap64u _ (by omega), u64_and_nat _ _ (by omega) (by omega), Nat.and_two_pow_sub_one_eq_mod, ev]
  · have := Nat.mod_lt q hM3
    rw [ev]; omega

set_option maxHeartbeats 3200000 in
set_option maxRecDepth 100000 in
theorem back_small (A0 : Option Addr) (c00 : Nat) (l : List S28) (w : World) (hl : l.length ≤ 60) (hr0 : Kd.C k28 w A0 l.length l) (hc0 : l.length ≤ c00) (g0 : ∀ x ∈ l, G28 x) :
    Calls Try.prog 3 #[.slice A0 l.length c00] w fun e w' => e = .returned (.bool true) ∧ Below w.heap.size w w' := by
  have hu28 := Try.underlying28
  have HR0 := Aside0.mk hr0
  have HC0 := Aside0.mk hc0
  have HG0 := Aside0.mk g0
  clear hr0 hc0 g0
  have c1 : decide (60 < (l.length : Int)) = false := decide_eq_false (by omega)
  go_enter Try.func3, Try.ntmps3
  go_wp2_with fail
  refine (awake_bits w).mono ?_
  rintro e w1 ⟨rfl, hb⟩
  have HB := Aside0.mk hb
  clear hb
  go_wp2_with fail
  refine (new_walk w w1 HB.out).mono ?_
  rintro e w2 ⟨g1, rfl, hI, _, hb⟩
  have HI := Aside0.mk hI
  have HB2 := Aside0.mk (below_step HB.out hb)
  clear hI hb HB
  go_wp2_with fail
  go_loopw [5, 18] (fun v5 v18 wr => ∃ (k : Nat) (v : Value) (B : List Int) (last n : Int), k ≤ l.length ∧ v18 = .int .i64 (k : Int) ∧ Aside0 (IsW w wr g1 v B last n) ∧ Aside0 (Inv B last n (zs l k : Nat) (ts l k)) ∧ Aside0 (Below w.heap.size w wr)) (fun _ v18 _ => l.length - (intOf v18).toNat)
  case atStart => exact ⟨0, .slice none 0 0, [], 0, 0, by omega, rfl, HI, ⟨by omega, by omega, by omega, by decide, rfl, rfl, by simp⟩, HB2⟩
  case round =>
    clear HI HB2
    obtain ⟨k, v, B, last, n, hk, rfl, HI, HV, HB⟩ := hrel
    by_cases hlt : k < l.length
    · have c0 : decide ((k : Int) < (l.length : Int)) = true := decide_eq_true (by omega)
      have p1 : 0 ≤ (k : Int) := by omega
      have q1 : (k : Int) < (l.length : Int) := by omega
      obtain ⟨ad, e1, hx0, hx1, hx2, hx3⟩ := at_T28 HR0.out (k : Int) p1 q1
      cases e1
      rw [Int.toNat_natCast] at hx0 hx1 hx2 hx3
      replace hx0 := (HB.out.cell (World.block_lt_of_cell? w _ hx0)).trans hx0
      replace hx1 := (HB.out.cell (World.block_lt_of_cell? w _ hx1)).trans hx1
      replace hx2 := (HB.out.cell (World.block_lt_of_cell? w _ hx2)).trans hx2
      replace hx3 := (HB.out.cell (World.block_lt_of_cell? w _ hx3)).trans hx3
      have hgx := g28_rd HG0.out k hlt
      obtain ⟨x0, hX0⟩ : ∃ x, (rd_T28 l (k : Int)).f0 = x := ⟨_, rfl⟩
      obtain ⟨x1, hX1⟩ : ∃ x, (rd_T28 l (k : Int)).f1 = x := ⟨_, rfl⟩
      obtain ⟨x2, hX2⟩ : ∃ x, (rd_T28 l (k : Int)).f2 = x := ⟨_, rfl⟩
      obtain ⟨x3, hX3⟩ : ∃ x, (rd_T28 l (k : Int)).f3 = x := ⟨_, rfl⟩
      rw [hX0] at hx0
      rw [hX1] at hx1 hgx
      rw [hX2] at hx2
      rw [hX3] at hx3
      obtain ⟨M1, hM1⟩ : ∃ M : Int, (if x2 < 0 then 0 else x2) = M := ⟨_, rfl⟩
      obtain ⟨M, hM⟩ : ∃ M : Int, (if 32 < M1 then 32 else M1) = M := ⟨_, rfl⟩
      have hMc : ((cl x2 : Nat) : Int) = M := by rw [cl_clamp, hM1, hM]
      have P := Aside0.mk (put_inv B last n (zs l k : Nat) (ts l k) x1 (cl x2) HV.out hgx.1 hgx.2 (cl_le x2))
      have F := Aside0.mk hMc
      have X := Aside0.mk hgx
      have Y := Aside0.mk (And.intro hX1 hX2)
      have hbl : B.length ≤ 1000000000 := by have h1 := HV.out.2.2.2.2.2.1; have h2 := ts_le l k; omega
      have hBl := Aside0.mk hbl
      clear hX0 hX1 hX2 hX3 hgx hMc hbl
      go_wp2_with (first | ((with_reducible refine gate_dst (N := 5) rfl ?_); refine box_event rfl (N := 5) rfl (cs := #[.int .u8 0, .int .u32 0, .int .i64 0, .string ⟨#[]⟩]) (t := 28) (by first | (go_simp; done) | (go_simp; rfl)) ?_; intro gr hg w5 hblk hb3; have BR := Aside0.mk hblk; have z0 := (blk_cell hblk 0); have z1 := (blk_cell hblk 1); have z2 := (blk_cell hblk 2); have z3 := (blk_cell hblk 3); have y0 := blk_frozen hblk 0; have y1 := blk_frozen hblk 1; have y2 := blk_frozen hblk 2; have y3 := blk_frozen hblk 3; have HI5 := Aside0.mk (HI.out.below hb3); have HB5 := Aside0.mk (below_step HB.out hb3); have GR := Aside0.mk (show w.heap.size ≤ gr by have := below_size HB.out; omega); clear hg hblk hb3))
      have WI := Aside0.mk (HI5.out.keep ((((((KeepBut.refl w5 gr none).set_ 0 (.int .u8 x0)).set_ 1 (.int .u32 x1)).set_ 2 (.int .i64 x2)).set_ 3 (.string x3))) BR.out (by decide) (by decide))
      have WB := Aside0.mk (show Below w.heap.size w ((((w5.setCell ⟨gr, 0, none⟩ (.int .u8 x0)).setCell ⟨gr, 1, none⟩ (.int .u32 x1)).setCell ⟨gr, 2, none⟩ (.int .i64 x2)).setCell ⟨gr, 3, none⟩ (.string x3)) from below_set (below_set (below_set (below_set HB5.out GR.out) GR.out) GR.out) GR.out)
      have hMt : M.toNat = cl x2 := by rw [← F.out, Int.toNat_natCast]
      obtain ⟨P1, P2, P3, P4⟩ := P.out
      refine (put_walk g1 v B last n x1 M M (last + (x1 % 2 ^ cl x2) * 2 ^ n.toNat) w _ WI.out WB.out HV.out.1 HV.out.2.1 (cl_same M (by rw [← F.out]; omega) (by rw [← F.out]; have := cl_le x2; omega)) (by rw [hMt]; exact P1) X.out.1 X.out.2 P2 P3 hBl.out).mono ?_
      rintro e w6 ⟨rfl, v6, hI6, hB6, _, _⟩
      rw [← F.out] at hI6
      have HI6 := Aside0.mk hI6
      have HB6 := Aside0.mk hB6
      have HV6 := Aside0.mk P4
      clear hI6 hB6 P1 P2 P3 P4 P
      have hz : (((zs l k : Nat) : Int) + x1 % 2 ^ cl x2 * 2 ^ ts l k) = ((zs l (k + 1) : Nat) : Int) := by
        rw [zs, vs, Y.out.1, Y.out.2]
        obtain ⟨q, rfl⟩ : ∃ q : Nat, x1 = q := ⟨x1.toNat, by have := X.out.1; omega⟩
        simp
      have ht : ts l k + cl x2 = ts l (k + 1) := by rw [ts, Y.out.2]
      have HZ := Aside0.mk (And.intro hz ht)
      clear hz ht hMt
      go_wp2
      go_roundw
      case rel => exact ⟨k + 1, v6, _, _, _, by omega, by go_num, HI6, ⟨by rw [← HZ.out.1, ← HZ.out.2]; exact HV6.out⟩, HB6⟩
      case measure => simp [intOf]; omega
    · have hk2 : k = l.length := by omega
      rw [hk2] at HV
      clear hk2
      have c9 : decide ((k : Int) < (l.length : Int)) = false := decide_eq_false (by omega)
      have hl256 : last < 256 := by
        obtain ⟨z0, z1, z2, z3, _⟩ := HV.out
        have h7 : (2 : Nat) ^ n.toNat ≤ 2 ^ 7 := Nat.pow_le_pow_right (by omega) (by omega)
        have h8 : ((2 ^ n.toNat : Nat) : Int) ≤ ((2 ^ 7 : Nat) : Int) := by omega
        have h9 : (2 : Int) ^ n.toNat ≤ 2 ^ 7 := by simpa using h8
        omega
      have hbl : B.length ≤ 1000000000 := by have h1 := HV.out.2.2.2.2.2.1; have h2 := ts_le l l.length; omega
      have hBl := Aside0.mk hbl
      have hL2 := Aside0.mk hl256
      obtain ⟨S, hS⟩ : ∃ S, strOfNums (if n = 0 then B else B ++ [last]) = S := ⟨_, rfl⟩
      have hT := text_reads B last n (zs l l.length) (ts l l.length) HV.out
      have hTW := text_walk g1 v B last n w wr HI.out HV.out.1 HV.out.2.1 HV.out.2.2.1 hL2.out hBl.out
      rw [hS] at hT hTW
      have TR := Aside0.mk hT
      have TW := Aside0.mk hTW
      have hsz : S.size ≤ 1000000 := by have := ts_le l l.length; have := hT.2.1; omega
      have HSZ := Aside0.mk hsz
      clear hS hT hTW hbl hl256 hsz
      go_wp2_with fail
      refine TW.out.mono ?_
      rintro e w3 ⟨rfl, hb⟩
      have HI3 := Aside0.mk (HI.out.below hb)
      have HB3 := Aside0.mk (below_step HB.out hb)
      clear hb TW HI HB
      go_wp2_with fail
      refine (bits_NewReader.calls S S 0 false w w3 HB3.out rfl).mono ?_
      rintro e w4 ⟨g2, rfl, hR, hb, hb2⟩
      have HI4 := Aside0.mk (HI3.out.below hb2)
      have HB4 := Aside0.mk hb
      have HR4 := Aside0.mk hR
      clear hR hb hb2 HI3 HB3
      go_wp2_with fail
      go_loopw [8, 9, 36] (fun v8 v9 v36 wq => ∃ (j : Nat), j ≤ l.length ∧ v36 = .int .i64 (j : Int) ∧ Aside0 (IsW w wq g1 v B last n) ∧ Aside0 (IsS84 w wq g2 S (ts l j : Nat) false) ∧ Aside0 (Below w.heap.size w wq)) (fun _ _ v36 _ => l.length - (intOf v36).toNat)
      case atStart => exact ⟨0, by omega, rfl, HI4, HR4, HB4⟩
      case round =>
        clear HI4 HR4 HB4
        obtain ⟨j, hj, rfl, HI5, HR5, HB5⟩ := hrel
        by_cases hlt : j < l.length
        · have c0 : decide ((j : Int) < (l.length : Int)) = true := decide_eq_true (by omega)
          have p1 : 0 ≤ (j : Int) := by omega
          have q1 : (j : Int) < (l.length : Int) := by omega
          obtain ⟨ad, e1, hx0, hx1, hx2, hx3⟩ := at_T28 HR0.out (j : Int) p1 q1
          cases e1
          rw [Int.toNat_natCast] at hx0 hx1 hx2 hx3
          replace hx0 := (HB5.out.cell (World.block_lt_of_cell? w _ hx0)).trans hx0
          replace hx1 := (HB5.out.cell (World.block_lt_of_cell? w _ hx1)).trans hx1
          replace hx2 := (HB5.out.cell (World.block_lt_of_cell? w _ hx2)).trans hx2
          replace hx3 := (HB5.out.cell (World.block_lt_of_cell? w _ hx3)).trans hx3
          have hgx := g28_rd HG0.out j hlt
          obtain ⟨x0, hX0⟩ : ∃ x, (rd_T28 l (j : Int)).f0 = x := ⟨_, rfl⟩
          obtain ⟨x1, hX1⟩ : ∃ x, (rd_T28 l (j : Int)).f1 = x := ⟨_, rfl⟩
          obtain ⟨x2, hX2⟩ : ∃ x, (rd_T28 l (j : Int)).f2 = x := ⟨_, rfl⟩
          obtain ⟨x3, hX3⟩ : ∃ x, (rd_T28 l (j : Int)).f3 = x := ⟨_, rfl⟩
          rw [hX0] at hx0
          rw [hX1] at hx1 hgx
          rw [hX2] at hx2
          rw [hX3] at hx3
          obtain ⟨M1, hM1⟩ : ∃ M : Int, (if x2 < 0 then 0 else x2) = M := ⟨_, rfl⟩
          obtain ⟨M, hM⟩ : ∃ M : Int, (if 32 < M1 then 32 else M1) = M := ⟨_, rfl⟩
          have hMc : ((cl x2 : Nat) : Int) = M := by rw [cl_clamp, hM1, hM]
          have hrd := reads S (zs l l.length) (ts l j) (cl x2) (cl_le x2) (by have h1 := TR.out.1; have h2 := ts_mono l (j + 1) (l.length - (j + 1)); rw [show j + 1 + (l.length - (j + 1)) = l.length from by omega, ts, hX2] at h2; omega) HSZ.out TR.out.2.2
          have hz := zs_read l j (l.length - (j + 1))
          rw [show j + 1 + (l.length - (j + 1)) = l.length from by omega, hX2] at hz
          rw [hz] at hrd
          obtain ⟨kr, hkr⟩ := hrd.rounds
          have hvs : bits BinOp.and IntKind.u64 x1 (IntKind.u64.wrap (IntKind.u64.wrap (2 ^ M.toNat) - 1)) = ((vs l j : Nat) : Int) := by
            rw [← hMc, Int.toNat_natCast]
            exact (vs_and l j x1 x2 hX1 hX2 hgx.1 hgx.2).1
          have RD := Aside0.mk hkr
          have F := Aside0.mk hMc
          have HT2 := Aside0.mk (show ts l j + cl x2 = ts l (j + 1) by rw [ts, hX2])
          have hM0 : 0 ≤ M := by rw [← hMc]; omega
          have hV0 : 0 ≤ ((vs l j : Nat) : Int) := by omega
          have hV1 : ((vs l j : Nat) : Int) < 4294967296 := (vs_and l j x1 x2 hX1 hX2 hgx.1 hgx.2).2
          obtain ⟨vv, hvv⟩ : ∃ z : Int, ((vs l j : Nat) : Int) = z := ⟨_, rfl⟩
          rw [hvv] at hvs hV0 hV1
          have hx1u : IntKind.u64.wrap x1 = x1 := by rw [IntKind.wrap_u64]; omega
          have hvvu : IntKind.u64.wrap vv = vv := by rw [IntKind.wrap_u64]; omega
          have VV := Aside0.mk hvv
          have hM0b : ¬ M < 0 := by omega
          clear hX0 hX1 hX2 hX3 hMc hkr hz hrd hgx hvv
          go_wp2_with (first | ((with_reducible refine gate_dst (N := 8) rfl ?_); refine box_event rfl (N := 8) rfl (cs := #[.int .u8 0, .int .u32 0, .int .i64 0, .string ⟨#[]⟩]) (t := 28) (by first | (go_simp; done) | (go_simp; rfl)) ?_; intro gr hg w5 hblk hb3; have BR := Aside0.mk hblk; have z0 := (blk_cell hblk 0); have z1 := (blk_cell hblk 1); have z2 := (blk_cell hblk 2); have z3 := (blk_cell hblk 3); have y0 := blk_frozen hblk 0; have y1 := blk_frozen hblk 1; have y2 := blk_frozen hblk 2; have y3 := blk_frozen hblk 3; have HI6 := Aside0.mk (HI5.out.below hb3); have HR6 := Aside0.mk (HR5.out.below hb3); have HB6 := Aside0.mk (below_step HB5.out hb3); have GR := Aside0.mk (show w.heap.size ≤ gr by have := below_size HB5.out; omega); clear hg hblk hb3))
          have BR4 := Aside0.mk (show ((((w5.setCell ⟨gr, 0, none⟩ (.int .u8 x0)).setCell ⟨gr, 1, none⟩ (.int .u32 x1)).setCell ⟨gr, 2, none⟩ (.int .i64 x2)).setCell ⟨gr, 3, none⟩ (.string x3)).heap[gr]? = some (.cells #[.int .u8 x0, .int .u32 x1, .int .i64 x2, .string x3] 28 (0, 0)) from by
            refine blk_put (cs := #[.int .u8 x0, .int .u32 x1, .int .i64 x2, .string ⟨#[]⟩]) ?_ 3 _ rfl
            refine blk_put (cs := #[.int .u8 x0, .int .u32 x1, .int .i64 0, .string ⟨#[]⟩]) ?_ 2 _ rfl
            refine blk_put (cs := #[.int .u8 x0, .int .u32 0, .int .i64 0, .string ⟨#[]⟩]) ?_ 1 _ rfl
            refine blk_put (cs := #[.int .u8 0, .int .u32 0, .int .i64 0, .string ⟨#[]⟩]) ?_ 0 _ rfl
            exact BR.out)
          have KB := (((((KeepBut.refl w5 gr none).set_ 0 (.int .u8 x0)).set_ 1 (.int .u32 x1)).set_ 2 (.int .i64 x2)).set_ 3 (.string x3))
          have WI := Aside0.mk (HI6.out.keep KB BR.out (by decide) (by decide))
          have gn : g2 ≠ gr := blk_ne HR6.out.1 BR.out (by decide)
          have WR := Aside0.mk (show IsS84 w ((((w5.setCell ⟨gr, 0, none⟩ (.int .u8 x0)).setCell ⟨gr, 1, none⟩ (.int .u32 x1)).setCell ⟨gr, 2, none⟩ (.int .i64 x2)).setCell ⟨gr, 3, none⟩ (.string x3)) g2 S (ts l j : Nat) false from ⟨KB.blk HR6.out.1 gn (by simp), HR6.out.2⟩)
          have WB := Aside0.mk (show Below w.heap.size w ((((w5.setCell ⟨gr, 0, none⟩ (.int .u8 x0)).setCell ⟨gr, 1, none⟩ (.int .u32 x1)).setCell ⟨gr, 2, none⟩ (.int .i64 x2)).setCell ⟨gr, 3, none⟩ (.string x3)) from below_set (below_set (below_set (below_set HB6.out GR.out) GR.out) GR.out) GR.out)
          have RD2 := Aside0.mk (show bits_Reader_Bits.f kr S (ts l j : Nat) false M = some (vv, S, ((ts l (j + 1) : Nat) : Int), false) from by rw [← F.out, ← VV.out, ← HT2.out]; exact RD.out)
          have GN := Aside0.mk gn
          clear KB gn BR z0 z1 z2 z3 y0 y1 y2 y3 HI6 HR6 HB6 RD
          generalize ((((w5.setCell ⟨gr, 0, none⟩ (.int .u8 x0)).setCell ⟨gr, 1, none⟩ (.int .u32 x1)).setCell ⟨gr, 2, none⟩ (.int .i64 x2)).setCell ⟨gr, 3, none⟩ (.string x3)) = Wc at BR4 WI WR WB ⊢
          have k1 : Wc.cell? ⟨gr, 1, none⟩ = some (.int .u32 x1) := (blk_cell BR4.out 1).trans rfl
          go_region_held3 (fun W => W.cell? ⟨gr, 1, none⟩ = some (.int .u32 x1)) (first | go_keep | assumption)
            ((go_at_call 18; refine (bits_Reader_Bits.calls kr g2 S (ts l j : Nat) false M vv S ((ts l (j + 1) : Nat) : Int) false w Wc.drew WR.out.drew (below_drew1 WB.out) RD2.out).mono ?_; rintro e w6 ⟨rfl, hR, hb, hk⟩; have k6 : w6.cell? ⟨gr, 1, none⟩ = some (.int .u32 x1) := keep_cell hk k1 (fun e => GN.out e.symm); have HR7 := Aside0.mk hR; have HB7 := Aside0.mk hb; have HI7 := Aside0.mk (IsW.keep (W := Wc.drew) (W1 := w6) (WI.out.drewN 1) hk WR.out.1 (by decide) (by decide)); clear hR hb hk))
          all_goals
            go_wp2
            go_roundw
            case rel => exact ⟨j + 1, by omega, by go_num, HI7, HR7, HB7⟩
            case measure => simp [intOf]; omega
        · have hk2 : j = l.length := by omega
          rw [hk2] at HR5
          clear hk2
          have c8 : decide ((j : Int) < (l.length : Int)) = false := decide_eq_false (by omega)
          obtain ⟨e1, s1, hlf8⟩ := back_nums B S n (ts l l.length) HV.out.2.2.2.2.2.1 HV.out.1 HV.out.2.1 TR.out.1 TR.out.2.1 HSZ.out
          have hn8 := HV.out.2.1
          have hn0 := HV.out.1
          obtain ⟨tt, htt⟩ : ∃ t : Int, ((ts l l.length : Nat) : Int) = t := ⟨_, rfl⟩
          obtain ⟨lf, hlf⟩ : ∃ z : Int, 8 * (S.size : Int) - ((ts l l.length : Nat) : Int) = z := ⟨_, rfl⟩
          rw [hlf] at s1 hlf8
          rw [htt] at e1 s1
          have d8 : decide (lf < 8) = true := decide_eq_true hlf8
          rw [htt] at HR5
          have LW := len_walk g1 v B last n w
          rw [e1] at LW
          have LW2 := Aside0.mk LW
          have N0 := Aside0.mk hn0
          have N8 := Aside0.mk hn8
          have S1 := Aside0.mk s1
          clear LW hn0 hn8 s1 hlf e1 hlf8 htt
          go_wp2_with fail
          refine (bits_Reader_Err.calls g2 S tt false 0 S tt false w _ HR5.out HB5.out rfl).mono ?_
          rintro e w5 ⟨rfl, hR, hb, hk⟩
          have HI6 := Aside0.mk (HI5.out.keep hk HR5.out.1 (by decide) (by decide))
          have HR6 := Aside0.mk hR
          have HB6 := Aside0.mk hb
          clear hR hb hk HI5 HR5 HB5
          go_wp2_with fail
          refine (bits_Reader_At.calls g2 S tt false tt S tt false w w5 HR6.out HB6.out rfl).mono ?_
          rintro e w6 ⟨rfl, hR, hb, hk⟩
          have HI7 := Aside0.mk (HI6.out.keep hk HR6.out.1 (by decide) (by decide))
          have HR7 := Aside0.mk hR
          have HB7 := Aside0.mk hb
          clear hR hb hk HI6 HR6 HB6
          go_wp2_with fail
          refine (LW2.out w6 HI7.out N0.out N8.out hBl.out).mono ?_
          rintro e w7 ⟨rfl, m, rfl⟩
          go_wp2_with fail
          refine (bits_Reader_Left.calls g2 S tt false lf S tt false w _ (HR7.out.drewN m) (pw_below_drewN HB7.out m) (by unfold bits_Reader_Left.f; rw [S1.out])).mono ?_
          rintro e w8 ⟨rfl, hR, hb, hk⟩
          have HB8 := Aside0.mk hb
          clear hR hb hk
          go_wp2
          go_ret
          exact ⟨rfl, HB8.out⟩

theorem bitsBack_walk (A0 : Option Addr) (c0 : Nat) (l : List S28) (w : World) (hr0 : Kd.C k28 w A0 l.length l) (hc0 : l.length ≤ c0) (hm0 : l.length ≤ maxLen) (y0 : l.length * 32 ≤ 140737488351232) (g0 : ∀ x ∈ l, G28 x) :
    Calls Try.prog 3 #[.slice A0 l.length c0] w fun e w' => e = .returned (.bool true) ∧ Below w.heap.size w w' := by
  by_cases h : l.length ≤ 60
  · exact back_small A0 c0 l w h hr0 hc0 g0
  · exact back_great A0 c0 l w (by omega) hm0
end Go.Proofs.Ytndcfccbicognaa.XBitsReads
