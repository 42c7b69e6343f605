/- CrcTurned: the walk of the law. It has no conditions beyond those of the row. -/
import Derived.Test.YtndcfccbicognaaYCrcTurn
import Derived.Lib.ConvBytes
import Derived.Laws.IdiomCopy
import Derived.Lib.LazyBuf
import Derived.Deep.RegionWith
import Derived.Deep.RegionLaw
import Derived.Deep.DrawnRows
namespace Go.Proofs.Ytndcfccbicognaa.XCrcOf
set_option linter.unusedVariables false
set_option linter.unusedSimpArgs false
open Go.RowKit Go.Proofs.YtndcfccbicognaaW.PrintWords Go.Proofs.YtndcfccbicognaaW.PrintLast Go.Proofs.YtndcfccbicognaaW.PrintMore
attribute [local go_sem ↓] Go.wp_at_zero Go.wp_at_succ

/-- copy, as a step of a region that draws its order: into cells that may be written. -/
theorem step_copy_cells {P : Program} {ops : Array Oper} {o : Oper} {a : Act} {w : World} {K : Act → World → Prop} {Q : Exit → Act → World → Prop} {E : Prop} (hgd : o.guard = none) (d s : Operand) (dT sT : TypeId)
    (ho : o.op = .call { callee := .builtin .copy, args := #[d, s], argTypes := #[dT, sT] }) (elem : TypeId) (hu : P.underlying dT = some (.slice elem)) (hsz : (P.info? elem).map (·.size) = some 1)
    (g off dLen dCap sLen sCap : Nat) (ad : Addr) (hd : a.eval d = .slice (some ⟨g, off, none⟩) dLen dCap) (hs : a.eval s = .slice (some ad) sLen sCap)
    (cs : List Value) (hn : cs.length = Nat.min sLen dLen) (hsrc : ∀ j v, cs[j]? = some v → w.cell? (ad.add j) = some v)
    (hc : ∀ j, j < cs.length → (w.cell? ⟨g, off + j, none⟩).isSome = true) (hf : ∀ j, j < cs.length → w.frozen? ⟨g, off + j, none⟩ = false) (h1 : ∀ v ∈ cs, v.oneCell' = true)
    (h : ∀ w', w' = w.setCells g off cs → K (a.put o.dst (goInt cs.length)) w') :
    if Region.wanted o (yielded ops a.tmps) = true then Oper.wp P o a w K Q else E := by
  have hw : Region.wanted o (yielded ops a.tmps) = true := by simp [Region.wanted, hgd]
  rw [if_pos hw]
  have hrun := run_copy_cells (P := P) w dT sT o.type elem g off dLen dCap ad sLen sCap cs hu hsz hn hsrc hc hf h1
  unfold Oper.wp
  simp [execOp, ho, resolve, invoke, builtin, hd, hs, hrun, Result.andThen]
  exact h _ rfl

theorem ba_ext (s t : ByteArray) (h : s.size = t.size) (hb : ∀ i : Nat, i < s.size → bt s (i : Int) = bt t (i : Int)) : s = t := by
  apply ByteArray.ext
  apply Array.ext
  · exact h
  · intro i h1 h2
    have h3 := hb i h1
    unfold bt at h3
    rw [dif_pos (by rw [Int.toNat_natCast]; exact h1), dif_pos (by rw [Int.toNat_natCast]; exact h2)] at h3
    simp only [Int.toNat_natCast] at h3
    apply UInt8.toNat.inj
    have h4 : ((s.data[i]).toNat : Int) = ((t.data[i]).toNat : Int) := h3
    omega
theorem str_size (X : List Int) : (strOfNums X).size = X.length := by simp [strOfNums, ByteArray.size]
theorem str_get (X : List Int) (i : Nat) (h : i < X.length) (hb : ∀ b ∈ X, 0 ≤ b ∧ b < 256) : bt (strOfNums X) (i : Int) = X.getD i 0 := by
  have h1 : (i : Int).toNat < (strOfNums X).size := by rw [str_size, Int.toNat_natCast]; exact h
  have hx := hb X[i] (List.getElem_mem h)
  unfold bt
  rw [dif_pos h1]
  have e : ((strOfNums X)[(i : Int).toNat]'h1) = UInt8.ofNat (X[i]).toNat := by simp [strOfNums, ByteArray.getElem_eq_getElem_data]
  rw [e, List.getD_eq_getElem?_getD, List.getElem?_eq_getElem h, Option.getD_some]
  simp
  omega

/-- A text's bytes, four of them from place k on turned to others. -/
def turned (s : ByteArray) (k : Nat) (c : List Int) : List Int := (List.range s.size).map fun i => if k ≤ i ∧ i < k + 4 then c.getD (i - k) 0 else (bn s i : Int)
theorem turned_len (s : ByteArray) (k : Nat) (c : List Int) : (turned s k c).length = s.size := by simp [turned]
theorem turned_get (s : ByteArray) (k : Nat) (c : List Int) (i : Nat) (h : i < s.size) : (turned s k c).getD i 0 = if k ≤ i ∧ i < k + 4 then c.getD (i - k) 0 else (bn s i : Int) := by
  unfold turned
  rw [List.getD_eq_getElem?_getD, List.getElem?_map, List.getElem?_range h]
  rfl
theorem turned_range (s : ByteArray) (k : Nat) (c : List Int) (hc : ∀ b ∈ c, 0 ≤ b ∧ b < 256) : ∀ b ∈ turned s k c, 0 ≤ b ∧ b < 256 := by
  intro b hb
  unfold turned at hb
  obtain ⟨i, _, rfl⟩ := List.mem_map.1 hb
  split
  · rw [List.getD_eq_getElem?_getD]
    rcases h : c[i - k]? with _ | v
    · simp
    · exact hc v (List.mem_of_getElem? h)
  · have := bn_lt s i
    omega
theorem turned_iff (s : ByteArray) (k : Nat) (c : List Int) (hc : ∀ b ∈ c, 0 ≤ b ∧ b < 256) : crcOf (strOfNums (turned s k c)) = crcOf s ↔ strOfNums (turned s k c) = s := by
  have hsz : (strOfNums (turned s k c)).size = s.size := by rw [str_size, turned_len]
  have hg : ∀ i, i < s.size → bt (strOfNums (turned s k c)) (i : Int) = if k ≤ i ∧ i < k + 4 then c.getD (i - k) 0 else (bn s i : Int) := fun i hi => by
    rw [str_get _ _ (by rw [turned_len]; exact hi) (turned_range s k c hc), turned_get _ _ _ _ hi]
  refine ⟨fun h => ?_, fun h => by rw [h]⟩
  rw [crc_nat, crc_nat] at h
  have hfar : ∀ i, ¬ (k ≤ i ∧ i < k + 4) → bn (strOfNums (turned s k c)) i = bn s i := by
    intro i hi
    by_cases h1 : i < s.size
    · have h2 := hg i h1
      rw [if_neg hi] at h2
      unfold bn
      rw [h2, bn_cast]
    · unfold bn bt
      rw [dif_neg (by rw [Int.toNat_natCast]; omega), dif_neg (by rw [Int.toNat_natCast]; omega)]
  have hall := crc_burst (strOfNums (turned s k c)) s k hsz (fun i hi => hfar i (by omega)) (fun i hi => hfar i (by omega)) (by omega)
  refine ba_ext _ _ hsz fun i hi => ?_
  rw [← bn_cast, ← bn_cast, hall i hi]
/-- The row behind the copy, read. -/
theorem below_setCells' {B b : Nat} {a : World} (hb : B ≤ b) : ∀ (vs : List Value) (o : Nat) (w : World), Below B a w → Below B a (w.setCells b o vs)
  | [], _, _, h => h
  | v :: vs, o, w, h => by
    rw [World.setCells]
    exact below_setCells' hb vs (o + 1) _ (h.setCell hb v)
theorem bytes_cell (w : World) (s : ByteArray) (j : Nat) (hj : j < s.size) : (Lib.bytesWorld w 5 s).cell? ⟨w.heap.size, j, none⟩ = some (.int .u8 (bn s j : Int)) := by
  rw [Lib.bytesWorld_cell w 5 s j hj]
  congr 2
  unfold bn bt
  rw [dif_pos (by rw [Int.toNat_natCast]; exact hj)]
  simp only [Int.toNat_natCast]
  have : j < s.data.toList.length := by rw [Array.length_toList]; exact hj
  rw [List.getD_eq_getElem?_getD, List.getElem?_eq_getElem this, Option.getD_some]
  rfl
theorem turned_reads (W : World) (g : Nat) (s : ByteArray) (k : Nat) (c0 c1 c2 c3 : Int) (CS : List Value) (hk : k < s.size) (hs : s.size ≤ 300) (hW : ∀ j, j < s.size → W.cell? ⟨g, j, none⟩ = some (.int .u8 (bn s j : Int)))
    (hCS : CS = [Value.int .u8 c0, .int .u8 c1, .int .u8 c2, .int .u8 c3].take (Nat.min 4 (s.size - k))) :
    ReadsInt (W.setCells g k CS) .u8 (some ⟨g, 0, none⟩) s.size (turned s k [c0, c1, c2, c3]) := by
  subst hCS
  refine ⟨turned_len _ _ _, by omega, fun _ => ⟨_, rfl, fun j hj => ?_⟩⟩
  rw [turned_get _ _ _ _ hj]
  have ha : (⟨g, 0, none⟩ : Addr).add j = ⟨g, j, none⟩ := by unfold Addr.add; split <;> simp_all
  rw [ha]
  have hl : ([Value.int .u8 c0, .int .u8 c1, .int .u8 c2, .int .u8 c3].take (Nat.min 4 (s.size - k))).length = Nat.min 4 (s.size - k) := by
    rw [List.length_take]
    show min (Nat.min 4 (s.size - k)) 4 = _
    have : Nat.min 4 (s.size - k) ≤ 4 := Nat.min_le_left _ _
    omega
  have hm : Nat.min 4 (s.size - k) = min 4 (s.size - k) := rfl
  by_cases hin : k ≤ j ∧ j < k + 4
  · rw [if_pos hin]
    have hj2 : j - k < Nat.min 4 (s.size - k) := by rw [hm]; omega
    have h := World.cell?_setCells_in g ([Value.int .u8 c0, .int .u8 c1, .int .u8 c2, .int .u8 c3].take (Nat.min 4 (s.size - k))) k W (fun i hi => by
      rw [hW (k + i) (by rw [hl, hm] at hi; omega)]; rfl) (j - k) (by rw [hl]; exact hj2)
    rw [show k + (j - k) = j from by omega] at h
    rw [h, List.getElem_take]
    have h4 : j - k < 4 := by omega
    have h5 : j - k = 0 ∨ j - k = 1 ∨ j - k = 2 ∨ j - k = 3 := by omega
    generalize j - k = q at *
    rcases h5 with rfl | rfl | rfl | rfl <;> rfl
  · rw [if_neg hin, World.cell?_setCells_out g _ k _ _ (fun _ _ => by rw [hl, hm]; show j < k ∨ _ ≤ j; omega), hW j hj]

set_option maxHeartbeats 400000 in
set_option maxRecDepth 100000 in
theorem turned_great (s : ByteArray) (n : Int) (c : Array Value) (hs : 300 < s.size ∨ n < 0 ∨ (s.size : Int) ≤ n) (w : World) (hs2 : s.size ≤ 140737488351232) : Calls Try.prog 9 #[.string s, .int .i64 n, .agg c] w fun e w' => e = .returned (.bool true) ∧ Below w.heap.size w w' := by
  have hu61 := Try.underlying61
  by_cases h1 : 300 < s.size
  · have d0 : decide (300 < (s.size : Int)) = true := decide_eq_true (by omega)
    clear hs
    go_enter Try.func9, Try.ntmps9
    go_wp2_with (first | ((with_reducible refine gate_dst (N := 5) rfl ?_); refine box_event rfl (N := 5) rfl (cs := c) (t := 61) (by first | (go_simp; done) | (go_simp; rfl)) ?_; intro gb hg w0 hblk hb3; have HB0 := Aside0.mk hb3; clear hg hblk hb3))
    refine (awake_calls _).mono ?_
    rintro e w1 ⟨rfl, hb⟩
    have HB := Aside0.mk (below_step HB0.out hb)
    clear hb
    go_wp2
    go_ret
    exact ⟨rfl, HB.out⟩
  · have d0 : decide (300 < (s.size : Int)) = false := decide_eq_false (by omega)
    by_cases h2 : n < 0
    · have d1 : decide (n < 0) = true := decide_eq_true h2
      clear hs
      go_enter Try.func9, Try.ntmps9
      go_wp2_with (first | ((with_reducible refine gate_dst (N := 5) rfl ?_); refine box_event rfl (N := 5) rfl (cs := c) (t := 61) (by first | (go_simp; done) | (go_simp; rfl)) ?_; intro gb hg w0 hblk hb3; have HB0 := Aside0.mk hb3; clear hg hblk hb3))
      refine (awake_calls _).mono ?_
      rintro e w1 ⟨rfl, hb⟩
      have HB := Aside0.mk (below_step HB0.out hb)
      clear hb
      go_wp2
      go_ret
      exact ⟨rfl, HB.out⟩
    · have d1 : decide (n < 0) = false := decide_eq_false h2
      have d2 : decide ((s.size : Int) ≤ n) = true := decide_eq_true (by omega)
      clear hs
      go_enter Try.func9, Try.ntmps9
      go_wp2_with (first | ((with_reducible refine gate_dst (N := 5) rfl ?_); refine box_event rfl (N := 5) rfl (cs := c) (t := 61) (by first | (go_simp; done) | (go_simp; rfl)) ?_; intro gb hg w0 hblk hb3; have HB0 := Aside0.mk hb3; clear hg hblk hb3))
      refine (awake_calls _).mono ?_
      rintro e w1 ⟨rfl, hb⟩
      have HB := Aside0.mk (below_step HB0.out hb)
      clear hb
      go_wp2
      go_ret
      exact ⟨rfl, HB.out⟩

set_option maxHeartbeats 1600000 in
set_option maxRecDepth 100000 in
theorem turned_small (s : ByteArray) (k : Nat) (c0 c1 c2 c3 : Int) (hc : ∀ b ∈ [c0, c1, c2, c3], 0 ≤ b ∧ b < 256) (hs : s.size ≤ 300) (hk : k < s.size) (w : World) : Calls Try.prog 9 #[.string s, .int .i64 (k : Int), .agg #[.int .u8 c0, .int .u8 c1, .int .u8 c2, .int .u8 c3]] w fun e w' => e = .returned (.bool true) ∧ Below w.heap.size w w' := by
  have hu61 := Try.underlying61
  have d0 : decide (300 < (s.size : Int)) = false := decide_eq_false (by omega)
  have d1 : decide ((k : Int) < 0) = false := decide_eq_false (by omega)
  have d2 : decide ((s.size : Int) ≤ (k : Int)) = false := decide_eq_false (by omega)
  have HC := Aside0.mk hc
  clear hc
  go_enter Try.func9, Try.ntmps9
  go_wp2_with (first | ((with_reducible refine gate_dst (N := 5) rfl ?_); refine box_event rfl (N := 5) rfl (cs := #[.int .u8 c0, .int .u8 c1, .int .u8 c2, .int .u8 c3]) (t := 61) (by first | (go_simp; done) | (go_simp; rfl)) ?_; intro gb hg w0 hblk hb3; have BK := Aside0.mk hblk; have GB := Aside0.mk hg; have HB0 := Aside0.mk hb3; clear hg hblk hb3))
  refine (awake_calls _).mono ?_
  rintro e w1 ⟨rfl, hb⟩
  have HB := Aside0.mk (below_step HB0.out hb)
  have BK1 := Aside0.mk (blk_below BK.out hb)
  clear hb BK HB0
  have hcv := Lib.run_convert_string_bytes (P := Try.prog) w1 9 43 5 s Try.underlying9 Try.underlying43 Try.underlying5
  obtain ⟨cap, hcap⟩ : ∃ cap, grownCap w1 s.size 0 5 = cap := ⟨_, rfl⟩
  have hcap2 : s.size ≤ cap := by rw [← hcap]; exact grownCap_ge _ _ _ _
  obtain ⟨Wb, hWb⟩ : ∃ Wb, Lib.bytesWorld w1 5 s = Wb := ⟨_, rfl⟩
  have hgb : gb < w1.heap.size := blk_lt BK1.out
  have BK2 := Aside0.mk (show Wb.heap[gb]? = some (.cells #[.int .u8 c0, .int .u8 c1, .int .u8 c2, .int .u8 c3] 61 (0, 0)) from by rw [← hWb, Lib.bytesWorld_at_old w1 5 s gb hgb]; exact BK1.out)
  have hcells : Aside0 (∀ j, j < s.size → Wb.cell? ⟨w1.heap.size, j, none⟩ = some (.int .u8 (bn s j : Int))) := ⟨fun j hj => by rw [← hWb]; exact bytes_cell w1 s j hj⟩
  have hfro : Aside0 (∀ j, j < s.size → Wb.frozen? ⟨w1.heap.size, j, none⟩ = false) := ⟨fun j hj => by
    have h := Lib.bytesWorld_at_new w1 5 s
    rw [hWb] at h
    have h3 : s.size ≤ (Lib.bytesCells w1 5 s).size := by
      unfold Lib.bytesCells
      rw [Array.size_append, Array.size_map]
      have : s.data.size = s.size := rfl
      omega
    simp [World.frozen?, h]
    omega⟩
  have HBW := Aside0.mk (show Below w.heap.size w Wb from below_step HB.out (by rw [← hWb]; exact ⟨rfl, rfl, rfl, by rw [Lib.bytesWorld_size]; omega, fun j hj => Lib.bytesWorld_at_old w1 5 s j hj⟩))
  rw [hcap, hWb] at hcv
  obtain ⟨g, hg⟩ : ∃ g, w1.heap.size = g := ⟨_, rfl⟩
  rw [hg] at hcv hcells hfro
  have hWs : g < Wb.heap.size := by rw [← hWb, Lib.bytesWorld_size]; omega
  have GG := Aside0.mk (show w.heap.size ≤ g by rw [← hg]; exact below_size HB.out)
  have HWS := Aside0.mk hWs
  have HGG := Aside0.mk (show gb ≠ g by omega)
  clear hcap hWb hg hgb BK1 HB hWs
  have k1 : ¬ (cap = k) := by omega
  have k2 : k ≤ s.size := by omega
  have k3 : k ≤ cap := by omega
  go_wp2
  have z0 := blk_cell BK2.out 0
  have z1 := blk_cell BK2.out 1
  have z2 := blk_cell BK2.out 2
  have z3 := blk_cell BK2.out 3
  obtain ⟨CS, hCS⟩ : ∃ CS, CS = [Value.int .u8 c0, .int .u8 c1, .int .u8 c2, .int .u8 c3].take (Nat.min 4 (s.size - k)) := ⟨_, rfl⟩
  have CL := Aside0.mk (show CS.length = Nat.min 4 (s.size - k) by
    rw [hCS, List.length_take]
    show min (Nat.min 4 (s.size - k)) 4 = _
    have : Nat.min 4 (s.size - k) ≤ 4 := Nat.min_le_left _ _
    omega)
  have CO := Aside0.mk (show ∀ v ∈ CS, v.oneCell' = true by
    intro v hv
    rw [hCS] at hv
    have := List.mem_of_mem_take hv
    simp at this
    rcases this with rfl | rfl | rfl | rfl <;> rfl)
  have CR := Aside0.mk (show ∀ j v, CS[j]? = some v → Wb.cell? ((⟨gb, 0, none⟩ : Addr).add j) = some v by
    intro j v hv
    rw [hCS, List.getElem?_take] at hv
    split at hv
    · have ha : (⟨gb, 0, none⟩ : Addr).add j = ⟨gb, j, none⟩ := by unfold Addr.add; split <;> simp_all
      rw [ha, cell_of_row Wb gb j _ _ _ BK2.out]
      simpa using hv
    · cases hv)
  have CC := Aside0.mk hCS
  have CM := Aside0.mk (show Nat.min 4 (s.size - k) ≤ s.size - k from Nat.min_le_right _ _)
  clear hCS
  go_region_law
    ((refine step_copy_cells (by rfl) _ _ _ _ (by rfl) 5 Try.underlying43 (by kernel_rfl) g k (s.size - k) (cap - k) 4 4 ⟨gb, 0, none⟩ (by rfl) (by rfl) CS CL.out CR.out (fun j hj => by have h := hcells.out (k + j) (by have := CL.out; have := CM.out; omega); show (Wb.cell? _).isSome = true; rw [h]; rfl) (fun j hj => hfro.out (k + j) (by have := CL.out; have := CM.out; omega)) CO.out ?_; intro W3 hW3; have RI := Aside0.mk (show ReadsInt W3 .u8 (some ⟨g, 0, none⟩) s.size (turned s k [c0, c1, c2, c3]) from by rw [hW3]; exact turned_reads Wb.drew g s k c0 c1 c2 c3 CS hk hs hcells.out CC.out); have HB3 := Aside0.mk (show Below w.heap.size w W3 from by rw [hW3]; exact below_setCells' GG.out _ _ _ (below_drew1 HBW.out)); have HS3 := Aside0.mk (show g < W3.heap.size from by rw [hW3]; exact Nat.lt_of_lt_of_le HWS.out (below_setCells' (B := g) (Nat.le_refl g) CS k Wb.drew (below_drew1 (Below.refl _ _))).size); clear hW3))
  clear hcv z0 z1 z2 z3 BK2 HBW hfro hcells CR CC CO CL CM
  obtain ⟨t, ht⟩ : ∃ t, strOfNums (turned s k [c0, c1, c2, c3]) = t := ⟨_, rfl⟩
  have TI := turned_iff s k [c0, c1, c2, c3] HC.out
  rw [ht] at TI
  obtain ⟨zt, hzt⟩ : ∃ z, crcOf t = z := ⟨_, rfl⟩
  obtain ⟨zs, hzs⟩ : ∃ z, crcOf s = z := ⟨_, rfl⟩
  have CT := of_calls t (by rw [← ht, str_size, turned_len]; omega)
  have CSs := of_calls s (by omega)
  rw [hzt] at CT
  rw [hzs] at CSs
  rw [hzt, hzs] at TI
  have CT := Aside0.mk CT
  have CSs := Aside0.mk CSs
  have hconv : Aside0 (∀ W, ReadsInt W .u8 (some ⟨g, 0, none⟩) s.size (turned s k [c0, c1, c2, c3]) → (convert 43 9 (.slice (some ⟨g, 0, none⟩) s.size cap)).run Try.prog W = .ok (.string t) W) := ⟨fun W h => by rw [← ht]; exact string_of_reads Try.underlying43 Try.underlying5 Try.underlying9 h⟩
  have hlater : Aside0 (∀ W W' : World, g < W.heap.size → Below W.heap.size W W' → ReadsInt W .u8 (some ⟨g, 0, none⟩) s.size (turned s k [c0, c1, c2, c3]) → ReadsInt W' .u8 (some ⟨g, 0, none⟩) s.size (turned s k [c0, c1, c2, c3])) := ⟨fun W W' hlt hb h => ⟨h.1, h.2.1, fun hn => by
    obtain ⟨ad, e1, h2⟩ := h.2.2 hn
    injection e1 with e1
    subst e1
    refine ⟨_, rfl, fun j hj => ?_⟩
    rw [hb.cell (by unfold Addr.add; split <;> exact hlt)]
    exact h2 j hj⟩⟩
  obtain ⟨b, hb1, hb2⟩ : ∃ b : Bool, (zt == zs) = b ∧ (t.toList == s.toList) = b := by
    by_cases h : t = s
    · exact ⟨true, by rw [TI.2 h]; exact beq_self_eq_true _, by rw [h]; exact beq_self_eq_true _⟩
    · refine ⟨false, beq_eq_false_iff_ne.mpr (fun e => h (TI.1 e)), beq_eq_false_iff_ne.mpr (fun e => h ?_)⟩
      rw [ByteArray.toList_eq, ByteArray.toList_eq] at e
      exact ByteArray.ext (Array.toList_inj.1 e)
  clear TI
  clear ht hzt hzs
  have hcA := hconv.out W3.drew RI.out
  go_wp2
  go_region_with (first
    | (go_at_call 36; refine (CT.out W3.drew).mono ?_; rintro e w5 ⟨rfl, hb⟩; have RI5 := Aside0.mk (hlater.out W3.drew w5 HS3.out hb RI.out); have hc5 := hconv.out w5 RI5.out; have HB5 := Aside0.mk (below_step (below_drew1 HB3.out) hb); have HS5 := Aside0.mk (Nat.lt_of_lt_of_le HS3.out hb.size); clear hb)
    | (go_at_call 36; refine (CSs.out w5).mono ?_; rintro e w6 ⟨rfl, hb⟩; have RI6 := Aside0.mk (hlater.out w5 w6 HS5.out hb RI5.out); have hc6 := hconv.out w6 RI6.out; have HB6 := Aside0.mk (below_step HB5.out hb); clear hb))
  all_goals
    go_wp2
    go_ret
    refine ⟨?_, ?_⟩
    · first | rfl | (simp; rfl)
    · repeat (first | exact HB6.out | apply below_drew1)

/-- The law, for whatever comes in. -/
theorem crcTurned_walk (s : ByteArray) (n c0 c1 c2 c3 : Int) (w : World) (hs : s.size ≤ 140737488351232) (hc0 : (Lit.int .u8 c0).wf = true) (hc1 : (Lit.int .u8 c1).wf = true) (hc2 : (Lit.int .u8 c2).wf = true) (hc3 : (Lit.int .u8 c3).wf = true) :
    Calls Try.prog 9 #[.string s, .int .i64 n, .agg #[.int .u8 c0, .int .u8 c1, .int .u8 c2, .int .u8 c3]] w fun e w' => e = .returned (.bool true) ∧ Below w.heap.size w w' := by
  have wf : ∀ c : Int, (Lit.int .u8 c).wf = true → 0 ≤ c ∧ c < 256 := by
    intro c h
    simp only [Lit.wf, IntKind.min, IntKind.max, IntKind.signed, IntKind.bits, Bool.and_eq_true, decide_eq_true_eq] at h
    simp at h
    omega
  by_cases h : 300 < s.size ∨ n < 0 ∨ (s.size : Int) ≤ n
  · exact turned_great s n _ h w hs
  · obtain ⟨k, rfl⟩ : ∃ k : Nat, n = k := ⟨n.toNat, by omega⟩
    refine turned_small s k c0 c1 c2 c3 (fun b hb => ?_) (by omega) (by omega) w
    simp at hb
    rcases hb with rfl | rfl | rfl | rfl
    · exact wf _ hc0
    · exact wf _ hc1
    · exact wf _ hc2
    · exact wf _ hc3
end Go.Proofs.Ytndcfccbicognaa.XCrcOf
