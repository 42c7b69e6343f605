/- tokens as bits: the document's Tokens It has no conditions. -/
import Derived.Test.YtmanmjjjepdhlaaYTokS
import Derived.BigRegion
import Derived.RegionTactic
import Derived.ChangeAlike
import Derived.Deep.RegionWith
import Derived.Deep.RegionLaw
import Derived.Laws.Tables
import Derived.Deep.QuietTactic
import Derived.BigQuiet
import Derived.Deep.RegionHeld3
import Derived.Deep.AppendLies
import Derived.Deep.DrawnRows
import Derived.Laws.CopyOwn
import Derived.Deep.MidRow
import Derived.Laws.ResultCell
import Derived.ChangeKeysEq
import Derived.Laws.BitsAllLaws
namespace Go.Proofs.Ytmanmjjjepdhlaa.XPrefix
set_option linter.unusedVariables false
set_option linter.unusedSimpArgs false
open Go.RowKit Go.Proofs.YtmanmjjjepdhlaaW.PrintWords Go.Proofs.YtmanmjjjepdhlaaW.PrintLast Go.Proofs.YtmanmjjjepdhlaaW.PrintMore
attribute [local go_sem] max2_int min2_int max_two min_two max_three min_three max_four min_four
open XInflateAny XTok
open XInflateTokens (S106 z106 rd_T106 k106 at_T106)
def TPost (w : World) (l : List S106) (e : Ending) (w' : World) : Prop := ∃ (Z q t : Nat) (v : Value), e = .returned v ∧ Kd.R (Kd.int .u8) 5 w' w.heap.size (fun _ => True) v (bl Z t) ∧ Below w.heap.size w w' ∧ Z < 2 ^ t ∧ Z % 8 = 3 ∧ EncT Z 3 l q ∧ At fixA Z q 256 t ∧ t ≤ 100 + 100 * l.length
def TW (w W : World) (g : Nat) (v : Value) (L : List Int) (Aa Ax Ab Ay : Option Addr) : Prop := IsV w W g v L ∧ Below w.heap.size w W ∧ Tabs W Aa Ax Ab Ay
/-- Behind an append of bits onto the writer. -/
theorem TW.append {w W3 w4 : World} {g : Nat} {v : Value} {L R : List Int} {Aa Ax Ab Ay : Option Addr} {A2 : Option Addr} {c2 n : Nat} {xs : List Value} (hI : IsV w W3 g v L) (hT : Tabs W3 Aa Ax Ab Ay) (hB : Below w.heap.size w w4) (hb : w4.heap[g]? = some (.cells #[v] 112 (0, 0))) (hk : KeepBut W3 w4 g v.ownBlock) (ho : w4.ownsRow w.heap.size 5 1 (.slice A2 n c2) n xs) (hn : (L ++ R).length = n) (hx : encs (Value.int .u8) (L ++ R) = xs) :
  TW w (w4.setCell ⟨g, 0, none⟩ (.slice A2 n c2)) g (.slice A2 n c2) (L ++ R) Aa Ax Ab Ay :=
 ⟨IsV.stored hb hI.2.1 ho hn hx, below_set hB hI.2.1, hT.keepV hI (hk.set_ _ _)⟩
theorem TW.put {w W W1 : World} {g : Nat} {v : Value} {L L1 : List Int} {Aa Ax Ab Ay : Option Addr} (h : TW w W g v L Aa Ax Ab Ay) (hp : VPost w W g v L1 W1) : ∃ v1, TW w W1 g v1 L1 Aa Ax Ab Ay := by
 obtain ⟨v1, h1, h2, h3, _⟩ := hp
 exact ⟨v1, h1, h2, h.2.2.keepV h.1 h3⟩
/-- A token's block is none that the writer writes. -/
theorem tok_keep {w W W1 : World} {g gb : Nat} {v : Value} {L : List Int} {cs : Array Value} (h : IsV w W g v L) (hb : W.heap[gb]? = some (.cells cs 106 (0, 0))) (hk : KeepBut W W1 g v.ownBlock) : W1.heap[gb]? = some (.cells cs 106 (0, 0)) :=
 hk.blk hb (blk_ne hb h.1 (by decide)) (own_ne' h.2.2 hb (by decide))
theorem bits_fixA (s : Nat) (hs : s < 288) (Aa Ax Ab Ay : Option Addr) (ca cx : Nat) (hca : fixA.length ≤ ca) (hcx : fixA.length ≤ cx) (W : World) (hT : Tabs W Aa Ax Ab Ay) : ∃ L : Nat, 1 ≤ L ∧ L ≤ 9 ∧ rd fixA (s : Int) = (L : Int) ∧ encV fixA s < 2 ^ L ∧ ∀ W', Below W.heap.size W W' → Calls Try.prog 65 #[.slice Aa 288 ca, .slice Ax 288 cx, .int .i64 (s : Int)] W' fun e w' => ∃ v, e = .returned v ∧ Kd.R (Kd.int .u8) 5 w' W'.heap.size (fun _ => True) v (bl (encV fixA s) L) ∧ Below W'.heap.size W' w' := by
 obtain ⟨L, h1, h2, h3, h4⟩ := fixA_at2 s hs
 refine ⟨L, h1, h2, h3, h4, fun W' hb => ?_⟩
 have hT' := hT.below hb
 have := bits_sym fixA fixA_ok s L (by rw [fixA_len]; exact hs) h3 h1 Aa ca Ax cx W' hT'.1 hca hT'.2.1 hcx
 rwa [fixA_len] at this
theorem bits_fixB (s : Nat) (hs : s < 32) (Aa Ax Ab Ay : Option Addr) (cb cy : Nat) (hcb : fixB.length ≤ cb) (hcy : fixB.length ≤ cy) (W : World) (hT : Tabs W Aa Ax Ab Ay) : rd fixB (s : Int) = ((5 : Nat) : Int) ∧ encV fixB s < 2 ^ 5 ∧ ∀ W', Below W.heap.size W W' → Calls Try.prog 65 #[.slice Ab 32 cb, .slice Ay 32 cy, .int .i64 (s : Int)] W' fun e w' => ∃ v, e = .returned v ∧ Kd.R (Kd.int .u8) 5 w' W'.heap.size (fun _ => True) v (bl (encV fixB s) 5) ∧ Below W'.heap.size W' w' := by
 obtain ⟨h3, h4⟩ := fixB_at2 s hs
 refine ⟨h3, h4, fun W' hb => ?_⟩
 have hT' := hT.below hb
 have := bits_sym fixB fixB_ok s 5 (by rw [fixB_len]; exact hs) h3 (by decide) Ab cb Ay cy W' hT'.2.2.1 hcb hT'.2.2.2 hcy
 rwa [fixB_len] at this
set_option maxHeartbeats 8000000 in
set_option maxRecDepth 100000 in
theorem tokens_calls (A0 : Option Addr) (c0 : Nat) (l : List S106) (w : World) (hr0 : Kd.C k106 w A0 l.length l) (hc0 : l.length ≤ c0) (hl : l.length ≤ 60) (hmay : ∀ j : Nat, j < l.length → MayT (rd_T106 l (j : Int))) (hby : ∀ j : Nat, j < l.length → 0 ≤ (rd_T106 l (j : Int)).f0 ∧ (rd_T106 l (j : Int)).f0 < 256) :
  Calls Try.prog 31 #[.slice A0 l.length c0] w fun e w' => TPost w l e w' := by
 obtain ⟨kf, hkf⟩ := fixed_is2.rounds
 obtain ⟨kx, hkx⟩ := (codes_same fixA fixA_ok.okl).rounds
 obtain ⟨ky, hky⟩ := (codes_same fixB fixB_ok.okl).rounds
 have HKF := Aside0.mk hkf
 have HKX := Aside0.mk hkx
 have HKY := Aside0.mk hky
 have HC := Aside0.mk hr0
 have HM := Aside0.mk hmay
 have HBY := Aside0.mk hby
 clear hkf hkx hky hr0 hmay hby
 go_enter Try.func31, Try.ntmps31
 go_wp2_with fail
 refine (montageref08_fixed.calls kf fixA fixB _ HKF.out).mono ?_
 rintro e w1 ⟨va, vb, rfl, ha, hb, hB⟩
 obtain ⟨Aa, ca, rfl, hca, hCa⟩ := RowN_of_R ha (by rw [fixA_len]; decide)
 obtain ⟨Ab, cb, rfl, hcb, hCb⟩ := RowN_of_R hb (by rw [fixB_len]; decide)
 have HCa := Aside0.mk hCa
 have HCb := Aside0.mk hCb
 have HB1 := Aside0.mk hB
 clear ha hb hB hCa hCb HKF
 go_wp2_with fail
 refine (montageref05_Codes.calls kx Aa ca fixA (codL fixA) _ HCa.out.1 hca HKX.out).mono ?_
 rintro e w2 ⟨vx, rfl, hx, hB⟩
 obtain ⟨Ax, cx, rfl, hcx, hCx⟩ := RowN_of_R hx (by rw [codL_len, fixA_len]; decide)
 have HCa2 := Aside0.mk (HCa.out.below hB)
 have HCb2 := Aside0.mk (HCb.out.below hB)
 have HCx := Aside0.mk hCx
 have HB2 := Aside0.mk (below_step HB1.out hB)
 clear hx hB hCx HKX HCa HCb HB1
 go_wp2_with fail
 refine (montageref05_Codes.calls ky Ab cb fixB (codL fixB) _ HCb2.out.1 hcb HKY.out).mono ?_
 rintro e w3 ⟨vy, rfl, hy, hB⟩
 obtain ⟨Ay, cy, rfl, hcy, hCy⟩ := RowN_of_R hy (by rw [codL_len, fixB_len]; decide)
 have HT := Aside0.mk (show Tabs w3 Aa Ax Ab Ay from ⟨HCa2.out.below hB, HCx.out.below hB, HCb2.out.below hB, hCy⟩)
 have HB3 := Aside0.mk (below_step HB2.out hB)
 clear hy hB hCy HKY HCa2 HCb2 HCx HB2
 rw [codL_len] at hcx hcy
 rw [codL_len fixA, codL_len fixB, fixA_len, fixB_len]
 have HI0 := Aside0.mk (show IsV w (w3.alloc (.cells #[.slice none 0 0] 112)) w3.heap.size (.slice none 0 0) [] from ⟨heap_alloc_new w3 _, below_size HB3.out, Kd.own_of_R (enc := Value.int .u8) (h1 := fun _ => rfl) (Kd.R_nil (Kd.int .u8) 5 _ _ (fun _ => True))⟩)
 have HP := Aside0.mk (rput_walk w3.heap.size (.slice none 0 0) [] 3 3 w _ HI0.out (below_alloc HB3.out _) (by decide) (by decide))
 have HTW := Aside0.mk (show TW w (w3.alloc (.cells #[.slice none 0 0] 112)) w3.heap.size (.slice none 0 0) [] Aa Ax Ab Ay from ⟨HI0.out, below_alloc HB3.out _, HT.out.below (below_alloc (Below.refl _ _) _)⟩)
 have HGB := Aside0.mk (below_size HB3.out)
 clear HI0 HT HB3
 obtain ⟨g, hg⟩ : ∃ g, w3.heap.size = g := ⟨_, rfl⟩
 rw [hg] at HP HTW HGB
 go_wp2_with fail
 clear hg
 refine HP.out.mono ?_
 rintro e w4 ⟨rfl, hp⟩
 obtain ⟨v4, h4⟩ := HTW.out.put hp
 have HW4 := Aside0.mk (show TW w w4 g v4 (bl 3 3) Aa Ax Ab Ay from h4)
 clear hp h4 HTW HP
 go_wp2
 go_loopw [8] (fun v8 wr => ∃ (i Z t : Nat) (v : Value), v8 = .int .i64 (i : Int) ∧ i ≤ l.length ∧ Aside0 (TW w wr g v (bl Z t) Aa Ax Ab Ay) ∧ Aside0 (ZT l i Z t)) (fun v8 _ => l.length + 1 - (intOf v8).toNat)
 case atStart => exact ⟨0, 3, 3, v4, rfl, by omega, HW4, ⟨by decide, by decide, rfl, by decide⟩⟩
 case round =>
  clear HW4
  obtain ⟨i, Z, t, v, rfl, hi, HW, HZ⟩ := hrel
  obtain ⟨Lb, hLb⟩ : ∃ L, bl Z t = L := ⟨_, rfl⟩
  have hlen : Lb.length = t := by rw [← hLb, bl_len]
  rw [hLb] at HW
  have HLB := Aside0.mk hLb
  have HLL := Aside0.mk (show Lb.length ≤ 5000 by have := HZ.out.2.2.2; omega)
  clear hLb hlen
  by_cases hlt : i < l.length
  ·have di : decide ((i : Int) < (l.length : Int)) = true := decide_eq_true (by omega)
   have dib : decide (i < l.length) = true := decide_eq_true hlt
   obtain ⟨r, hrow⟩ : ∃ r, rd_T106 l (i : Int) = r := ⟨_, rfl⟩
   obtain ⟨b, n, back⟩ := r
   have hmay := HM.out i hlt
   have hby := HBY.out i hlt
   obtain ⟨ad, ea, hx0, hx1, hx2⟩ := at_T106 (Kd.C_below HC.out HW.out.2.1) (i : Int) (by omega) (by omega)
   cases ea
   rw [hrow] at hx0 hx1 hx2 hmay hby
   dsimp only at hx0 hx1 hx2 hby
   rw [Int.toNat_natCast] at hx0 hx1 hx2
   have HRW := Aside0.mk hrow
   have HMY := Aside0.mk hmay
   have p0 : 0 ≤ (i : Int) := by omega
   have q0 : (i : Int) < (l.length : Int) := by omega
   obtain ⟨bN, rfl⟩ : ∃ bN : Nat, b = (bN : Int) := ⟨b.toNat, by omega⟩
   have hb0 : 0 ≤ (bN : Int) := by omega
   have hb1 : (bN : Int) < 256 := hby.2
   clear hrow hmay hby
   by_cases hn : n = 0
   ·have e1 : (n == 0) = true := beq_iff_eq.mpr hn
    have HN := Aside0.mk hn
    clear hn
    go_wp2_with (first | ((with_reducible refine gate_dst (N := 9) rfl ?_); refine box_event ?hg (N := 9) ?hd (cs := #[.int .u8 0, .int .i64 0, .int .i64 0]) (t := 106) ?hr ?_; (case hd => rfl); (case hg => rfl); (case hr => first | (go_simp; done) | (go_simp; rfl)); intro gb hgb w8 hbox hb8; have BK8 := Aside0.mk hbox; have HB8 := Aside0.mk hb8; have GE8 := Aside0.mk (Nat.le_of_eq hgb.symm); have hcz0 : w8.cell? ⟨gb, 0, none⟩ = some (.int .u8 0) := (blk_cell BK8.out 0).trans rfl; have hcz1 : w8.cell? ⟨gb, 1, none⟩ = some (.int .i64 0) := (blk_cell BK8.out 1).trans rfl; have hcz2 : w8.cell? ⟨gb, 2, none⟩ = some (.int .i64 0) := (blk_cell BK8.out 2).trans rfl; have hfz0 := blk_frozen BK8.out 0; have hfz1 := blk_frozen BK8.out 1; have hfz2 := blk_frozen BK8.out 2; clear hbox hb8 hgb))
    have hb9 := ((HB8.out.setCell (p := ⟨gb, 0, none⟩) GE8.out (.int .u8 (bN : Int))).setCell (p := ⟨gb, 1, none⟩) GE8.out (.int .i64 n)).setCell (p := ⟨gb, 2, none⟩) GE8.out (.int .i64 back)
    have hk9 := blk_put (blk_put (blk_put BK8.out 0 (.int .u8 (bN : Int)) rfl) 1 (.int .i64 n) rfl) 2 (.int .i64 back) rfl
    clear hcz0 hcz1 hcz2 hfz0 hfz1 hfz2 hx0 hx1 hx2 BK8 HB8 GE8
    generalize ((w8.setCell ⟨gb, 0, none⟩ (.int .u8 (bN : Int))).setCell ⟨gb, 1, none⟩ (.int .i64 n)).setCell ⟨gb, 2, none⟩ (.int .i64 back) = W9 at hb9 hk9 ⊢
    have HI := Aside0.mk (HW.out.1.below hb9)
    have HB := Aside0.mk (below_step HW.out.2.1 hb9)
    have TB := Aside0.mk (HW.out.2.2.below hb9)
    have BG := Aside0.mk hk9
    clear hb9 hk9 HW
    have hcb : W9.cell? ⟨gb, 0, none⟩ = some (.int .u8 (bN : Int)) := (blk_cell BG.out 0).trans rfl
    obtain ⟨L, hL1, hL9, hLr, hLe, hcall⟩ := bits_fixA bN (by omega) Aa Ax Ab Ay ca cx hca hcx W9 TB.out
    have HTC := Aside0.mk hcall
    have HLF := Aside0.mk (And.intro hL1 (And.intro hL9 (And.intro hLr hLe)))
    obtain ⟨R, hR⟩ : ∃ R, bl (encV fixA bN) L = R := ⟨_, rfl⟩
    have HRL := Aside0.mk (show R.length ≤ 100 by rw [← hR, bl_len]; omega)
    rw [hR] at HTC
    have HR := Aside0.mk hR
    clear hcall hL1 hL9 hLr hLe hR
    have hwb : IntKind.i64.wrap (bN : Int) = (bN : Int) := by rw [i64_w]; unfold wrap64; omega
    obtain ⟨i0, hi0, hz0, hz1, hz2⟩ := info_parts info5
    have hc0 : W9.cell? ⟨g, 0, none⟩ = some v := (blk_cell HI.out.1 0).trans rfl
    have hlt0 := blk_lt HI.out.1
    have hne := Aside0.mk HI.out.ne
    go_wp2_with fail
    go_region_law
     (first
      | ((refine step_append_vec (by rfl) _ _ _ (by rfl) w.heap.size 5 i0 _ 1 1 Try.underlying52 hi0 hz0 hz1 hz2 rfl (by omega) v Lb.length (encs (Value.int .u8) Lb) (by rfl) (by first | exact HI3.out.2.2 | exact HI3.out.2.2.drew) A1 R.length c1 (encs (Value.int .u8) R) (by rfl) (by simp [encs]) (cells_of_C RC.out) (by intro u hu; simp [encs] at hu; obtain ⟨_, _, rfl⟩ := hu; rfl) (by have := HLL.out; have := HRL.out; simp only [maxLen]; omega) (by have := HLL.out; have := HRL.out; omega) (by have := below_size HB3.out; first | omega | (simp; omega)) _ rfl ?_; intro A2 c2 w4 hown2 hgrow2 hat2; have O2 := Aside0.mk hown2; have BK2 := Aside0.mk (show w4.heap[g]? = some (.cells #[v] 112 (0, 0)) from (hgrow2.block g (blk_lt HI3.out.1) (fun e => hne.out e.symm)).trans HI3.out.1); have HB4 := Aside0.mk (show Below w.heap.size w w4 from Below.grown HB3.out hgrow2 (by have := below_size HB3.out; first | omega | (simp; omega)) (own_base HI3.out.2.2)); have HK4 := Aside0.mk (show KeepBut w3 w4 g (Value.ownBlock v) from KeepBut.of_grown hgrow2 g); clear hown2 hgrow2 hat2; have kc0 := (blk_cell BK2.out 0).trans rfl; have kf0 := blk_frozen BK2.out 0))
      | ((go_simp; go_at_call 65; (with_reducible refine (HTC.out _ (by first | exact Below.refl _ _ | exact below_drew1 (Below.refl _ _))).mono ?_); rintro e w3 ⟨vv, rfl, hO, hb⟩; have hb3 := below_step (by first | exact Below.refl (W9).heap.size W9 | exact below_drew1 (Below.refl (W9).heap.size W9)) hb; have HI3 := Aside0.mk (HI.out.below hb3); have HB3 := Aside0.mk (below_step HB.out hb3); have TB3 := Aside0.mk (TB.out.below hb3); have BG3 := Aside0.mk (blk_below BG.out hb3); obtain ⟨A1, c1, rfl, hC⟩ := R_form hO; have RC := Aside0.mk hC; have kc3 : w3.cell? ⟨g, 0, none⟩ = some v := (blk_cell HI3.out.1 0).trans rfl; have kf3 := blk_frozen HI3.out.1 0; clear hO hb hb3 hC)))
    all_goals
     have HNW := Aside0.mk (TW.append HI3.out TB3.out HB4.out BK2.out HK4.out O2.out (by rw [List.length_append]) (by rw [encs_append]))
     obtain ⟨Z', hbl, hz'⟩ := step_lit l i Z t bN L back (by omega) (by rw [HRW.out, HN.out]) (by omega) HLF.out.1 HLF.out.2.1 HLF.out.2.2.1 HLF.out.2.2.2 HZ.out
     have HZ2 := Aside0.mk hz'
     have HBL := Aside0.mk hbl
     clear hbl hz' kc0 kf0 kc3 kf3 hc0 hlt0 hcb HTC hwb
     go_wp2_with fail
     go_roundw
     case rel => exact ⟨i + 1, Z', t + L, _, by go_num, by omega, ⟨by rw [← HBL.out, HLB.out, HR.out]; exact HNW.out⟩, HZ2⟩
     case measure => simp [intOf]; omega
   ·have e1 : (n == 0) = false := beq_eq_false_iff_ne.mpr hn
    have hr : 3 ≤ n ∧ n ≤ 258 ∧ 1 ≤ back ∧ back ≤ 32768 := HMY.out.resolve_left (fun h => hn h.1)
    obtain ⟨p, m, hp, hm, hb5, hlev, hsl⟩ := ref_length n hr.1 hr.2.1
    obtain ⟨j, x, hj, hx, hb13, hdev, hsd⟩ := ref_distance back hr.2.2.1 hr.2.2.2
    obtain ⟨kl, hkl⟩ := hlev.rounds
    obtain ⟨kd, hkd⟩ := hdev.rounds
    have hm5 : m < 32 := Nat.lt_of_lt_of_le hm (Nat.pow_le_pow_right (by decide) hb5)
    have hx13 : x < 8192 := Nat.lt_of_lt_of_le hx (Nat.pow_le_pow_right (by decide) hb13)
    obtain ⟨b1, hb1'⟩ : ∃ b1, bitsL p = b1 := ⟨_, rfl⟩
    obtain ⟨b2, hb2'⟩ : ∃ b2, bitsD j = b2 := ⟨_, rfl⟩
    rw [hb1'] at hkl hm hb5
    rw [hb2'] at hkd hx hb13
    have HKL := Aside0.mk hkl
    have HKD := Aside0.mk hkd
    have HSL := Aside0.mk hsl
    have HSD := Aside0.mk hsd
    have HMX := Aside0.mk (And.intro hm hx)
    have HB12 := Aside0.mk (And.intro hb1' hb2')
    have HN := Aside0.mk hn
    have HHR := Aside0.mk hr
    clear hn hr hlev hdev hkl hkd hsl hsd hm hx hb1' hb2'
    go_wp2_with (first | ((with_reducible refine gate_dst (N := 9) rfl ?_); refine box_event ?hg (N := 9) ?hd (cs := #[.int .u8 0, .int .i64 0, .int .i64 0]) (t := 106) ?hr ?_; (case hd => rfl); (case hg => rfl); (case hr => first | (go_simp; done) | (go_simp; rfl)); intro gb hgb w8 hbox hb8; have BK8 := Aside0.mk hbox; have HB8 := Aside0.mk hb8; have GE8 := Aside0.mk (Nat.le_of_eq hgb.symm); have hcz0 : w8.cell? ⟨gb, 0, none⟩ = some (.int .u8 0) := (blk_cell BK8.out 0).trans rfl; have hcz1 : w8.cell? ⟨gb, 1, none⟩ = some (.int .i64 0) := (blk_cell BK8.out 1).trans rfl; have hcz2 : w8.cell? ⟨gb, 2, none⟩ = some (.int .i64 0) := (blk_cell BK8.out 2).trans rfl; have hfz0 := blk_frozen BK8.out 0; have hfz1 := blk_frozen BK8.out 1; have hfz2 := blk_frozen BK8.out 2; clear hbox hb8 hgb))
    have hb9 := ((HB8.out.setCell (p := ⟨gb, 0, none⟩) GE8.out (.int .u8 (bN : Int))).setCell (p := ⟨gb, 1, none⟩) GE8.out (.int .i64 n)).setCell (p := ⟨gb, 2, none⟩) GE8.out (.int .i64 back)
    have hk9 := blk_put (blk_put (blk_put BK8.out 0 (.int .u8 (bN : Int)) rfl) 1 (.int .i64 n) rfl) 2 (.int .i64 back) rfl
    clear hcz0 hcz1 hcz2 hfz0 hfz1 hfz2 hx0 hx1 hx2 BK8 HB8 GE8
    generalize ((w8.setCell ⟨gb, 0, none⟩ (.int .u8 (bN : Int))).setCell ⟨gb, 1, none⟩ (.int .i64 n)).setCell ⟨gb, 2, none⟩ (.int .i64 back) = W9 at hb9 hk9 ⊢
    have HI := Aside0.mk (HW.out.1.below hb9)
    have HB := Aside0.mk (below_step HW.out.2.1 hb9)
    have TB := Aside0.mk (HW.out.2.2.below hb9)
    have BG := Aside0.mk hk9
    clear hb9 hk9 HW
    have hcb1 : W9.cell? ⟨gb, 1, none⟩ = some (.int .i64 n) := (blk_cell BG.out 1).trans rfl
    go_wp2_with fail
    refine (XInflateTokens.montageref07_Length.calls kl n (257 + (p : Int)) (b1 : Int) (m : Int) true _ HKL.out).mono ?_
    rintro e w10 ⟨rfl, hb⟩
    have HIa := Aside0.mk (HI.out.below hb)
    have HBa := Aside0.mk (below_step HB.out hb)
    have TBa := Aside0.mk (TB.out.below hb)
    have BGa := Aside0.mk (blk_below BG.out hb)
    clear hb HI HB TB BG hcb1
    have HI := HIa
    have HB := HBa
    have TB := TBa
    have BG := BGa
    clear HIa HBa TBa BGa
    have e257 : (257 : Int) + (p : Int) = ((257 + p : Nat) : Int) := by omega
    obtain ⟨L, hL1, hL9, hLr, hLe, hcall⟩ := bits_fixA (257 + p) (by omega) Aa Ax Ab Ay ca cx hca hcx w10 TB.out
    rw [← e257] at hcall
    have HTC := Aside0.mk hcall
    have HLF := Aside0.mk (And.intro hL1 (And.intro hL9 (And.intro hLr hLe)))
    obtain ⟨R, hR⟩ : ∃ R, bl (encV fixA (257 + p)) L = R := ⟨_, rfl⟩
    have HRL := Aside0.mk (show R.length ≤ 100 by rw [← hR, bl_len]; omega)
    rw [hR] at HTC
    have HR := Aside0.mk hR
    clear hcall hL1 hL9 hLr hLe hR e257
    obtain ⟨i0, hi0, hz0, hz1, hz2⟩ := info_parts info5
    have hc0 : w10.cell? ⟨g, 0, none⟩ = some v := (blk_cell HI.out.1 0).trans rfl
    have hlt0 := blk_lt HI.out.1
    have hne := Aside0.mk HI.out.ne
    go_wp2_with fail
    go_region_law
     (first
      | ((refine step_append_vec (by rfl) _ _ _ (by rfl) w.heap.size 5 i0 _ 1 1 Try.underlying52 hi0 hz0 hz1 hz2 rfl (by omega) v Lb.length (encs (Value.int .u8) Lb) (by rfl) (by first | exact HI3.out.2.2 | exact HI3.out.2.2.drew) A1 R.length c1 (encs (Value.int .u8) R) (by rfl) (by simp [encs]) (cells_of_C RC.out) (by intro u hu; simp [encs] at hu; obtain ⟨_, _, rfl⟩ := hu; rfl) (by have := HLL.out; have := HRL.out; simp only [maxLen]; omega) (by have := HLL.out; have := HRL.out; omega) (by have := below_size HB3.out; first | omega | (simp; omega)) _ rfl ?_; intro A2 c2 w4 hown2 hgrow2 hat2; have O2 := Aside0.mk hown2; have BK2 := Aside0.mk (show w4.heap[g]? = some (.cells #[v] 112 (0, 0)) from (hgrow2.block g (blk_lt HI3.out.1) (fun e => hne.out e.symm)).trans HI3.out.1); have HB4 := Aside0.mk (show Below w.heap.size w w4 from Below.grown HB3.out hgrow2 (by have := below_size HB3.out; first | omega | (simp; omega)) (own_base HI3.out.2.2)); have HK4 := Aside0.mk (show KeepBut w3 w4 g (Value.ownBlock v) from KeepBut.of_grown hgrow2 g); clear hown2 hgrow2 hat2; have kc0 := (blk_cell BK2.out 0).trans rfl; have kf0 := blk_frozen BK2.out 0))
      | ((go_simp; go_at_call 65; (with_reducible refine (HTC.out _ (by first | exact Below.refl _ _ | exact below_drew1 (Below.refl _ _))).mono ?_); rintro e w3 ⟨vv, rfl, hO, hb⟩; have hb3 := below_step (by first | exact Below.refl (w10).heap.size w10 | exact below_drew1 (Below.refl (w10).heap.size w10)) hb; have HI3 := Aside0.mk (HI.out.below hb3); have HB3 := Aside0.mk (below_step HB.out hb3); have TB3 := Aside0.mk (TB.out.below hb3); have BG3 := Aside0.mk (blk_below BG.out hb3); obtain ⟨A1, c1, rfl, hC⟩ := R_form hO; have RC := Aside0.mk hC; have kc3 : w3.cell? ⟨g, 0, none⟩ = some v := (blk_cell HI3.out.1 0).trans rfl; have kf3 := blk_frozen HI3.out.1 0; clear hO hb hb3 hC)))
    all_goals
     have HNW := Aside0.mk (TW.append HI3.out TB3.out HB4.out BK2.out HK4.out O2.out (by rw [List.length_append]) (by rw [encs_append]))
     have BG5 := Aside0.mk (tok_keep HI3.out BG3.out (HK4.out.set_ 0 (.slice A2 (Lb.length + R.length) c2)))
     have HP := Aside0.mk (rput_walk g _ (Lb ++ R) m (b1 : Int) w _ HNW.out.1 HNW.out.2.1 (by omega) (by rw [List.length_append]; have := HLL.out; have := HRL.out; omega))
     rw [cl_nat b1 (by omega)] at HP
     have hwm : IntKind.u32.wrap (m : Int) = (m : Int) := by rw [IntKind.wrap_u32]; omega
     clear kc0 kf0 kc3 kf3 hc0 hlt0 HTC hne RC HI3 TB3 HB4 BK2 HK4 O2 BG3 HB3 HI HB TB BG hi0 hz0 hz1 hz2
     go_wp2_with fail
     (with_reducible refine HP.out.mono ?_)
     rintro e w6 ⟨rfl, hp⟩
     have BG6 := Aside0.mk (by obtain ⟨_, _, _, hk, _⟩ := hp; exact tok_keep HNW.out.1 BG5.out hk)
     obtain ⟨v6, h6⟩ := HNW.out.put hp
     have HW6 := Aside0.mk h6
     clear h6 hp HP HNW BG5 hwm
     obtain ⟨L2, hL2⟩ : ∃ L2, Lb ++ R ++ bl m b1 = L2 := ⟨_, rfl⟩
     have HLL2 := Aside0.mk (show L2.length ≤ 6000 by rw [← hL2, List.length_append, List.length_append, bl_len]; have := HLL.out; have := HRL.out; omega)
     rw [hL2] at HW6
     have HL2 := Aside0.mk hL2
     clear hL2
     have hcb2 : w6.cell? ⟨gb, 2, none⟩ = some (.int .i64 back) := (blk_cell BG6.out 2).trans rfl
     go_wp2_with fail
     refine (XInflateTokens.montageref07_Distance.calls kd back (j : Int) (b2 : Int) (x : Int) true _ HKD.out).mono ?_
     rintro e w7 ⟨rfl, hb⟩
     have HI := Aside0.mk (HW6.out.1.below hb)
     have HB := Aside0.mk (below_step HW6.out.2.1 hb)
     have TB := Aside0.mk (HW6.out.2.2.below hb)
     have BG := Aside0.mk (blk_below BG6.out hb)
     clear hb HW6 BG6 hcb2
     obtain ⟨hjr, hje, hcallB⟩ := bits_fixB j (by omega) Aa Ax Ab Ay cb cy hcb hcy w7 TB.out
     have HTC := Aside0.mk hcallB
     have HJF := Aside0.mk (And.intro hjr hje)
     obtain ⟨R2, hR2⟩ : ∃ R, bl (encV fixB j) 5 = R := ⟨_, rfl⟩
     have HRL2 := Aside0.mk (show R2.length ≤ 100 by rw [← hR2, bl_len]; omega)
     rw [hR2] at HTC
     have HR2 := Aside0.mk hR2
     clear hcallB hjr hje hR2
     obtain ⟨i0, hi0, hz0, hz1, hz2⟩ := info_parts info5
     have hc0 : w7.cell? ⟨g, 0, none⟩ = some v6 := (blk_cell HI.out.1 0).trans rfl
     have hlt0 := blk_lt HI.out.1
     have hne := Aside0.mk HI.out.ne
     go_wp2_with fail
     go_region_law
      (first
       | ((refine step_append_vec (by rfl) _ _ _ (by rfl) w.heap.size 5 i0 _ 1 1 Try.underlying52 hi0 hz0 hz1 hz2 rfl (by omega) v6 L2.length (encs (Value.int .u8) L2) (by rfl) (by first | exact HI3.out.2.2 | exact HI3.out.2.2.drew) A1 R2.length c1 (encs (Value.int .u8) R2) (by rfl) (by simp [encs]) (cells_of_C RC.out) (by intro u hu; simp [encs] at hu; obtain ⟨_, _, rfl⟩ := hu; rfl) (by have := HLL2.out; have := HRL2.out; simp only [maxLen]; omega) (by have := HLL2.out; have := HRL2.out; omega) (by have := below_size HB3.out; first | omega | (simp; omega)) _ rfl ?_; intro A2 c2 w4 hown2 hgrow2 hat2; have O2 := Aside0.mk hown2; have BK2 := Aside0.mk (show w4.heap[g]? = some (.cells #[v6] 112 (0, 0)) from (hgrow2.block g (blk_lt HI3.out.1) (fun e => hne.out e.symm)).trans HI3.out.1); have HB4 := Aside0.mk (show Below w.heap.size w w4 from Below.grown HB3.out hgrow2 (by have := below_size HB3.out; first | omega | (simp; omega)) (own_base HI3.out.2.2)); have HK4 := Aside0.mk (show KeepBut w3 w4 g (Value.ownBlock v6) from KeepBut.of_grown hgrow2 g); clear hown2 hgrow2 hat2; have kc0 := (blk_cell BK2.out 0).trans rfl; have kf0 := blk_frozen BK2.out 0))
       | ((go_simp; go_at_call 65; (with_reducible refine (HTC.out _ (by first | exact Below.refl _ _ | exact below_drew1 (Below.refl _ _))).mono ?_); rintro e w3 ⟨vv, rfl, hO, hb⟩; have hb3 := below_step (by first | exact Below.refl (w7).heap.size w7 | exact below_drew1 (Below.refl (w7).heap.size w7)) hb; have HI3 := Aside0.mk (HI.out.below hb3); have HB3 := Aside0.mk (below_step HB.out hb3); have TB3 := Aside0.mk (TB.out.below hb3); have BG3 := Aside0.mk (blk_below BG.out hb3); obtain ⟨A1, c1, rfl, hC⟩ := R_form hO; have RC := Aside0.mk hC; have kc3 : w3.cell? ⟨g, 0, none⟩ = some v6 := (blk_cell HI3.out.1 0).trans rfl; have kf3 := blk_frozen HI3.out.1 0; clear hO hb hb3 hC)))
     all_goals
      have HNW := Aside0.mk (TW.append HI3.out TB3.out HB4.out BK2.out HK4.out O2.out (by rw [List.length_append]) (by rw [encs_append]))
      have HP := Aside0.mk (rput_walk g _ (L2 ++ R2) x (b2 : Int) w _ HNW.out.1 HNW.out.2.1 (by omega) (by rw [List.length_append]; have := HLL2.out; have := HRL2.out; omega))
      rw [cl_nat b2 (by omega)] at HP
      have hwm : IntKind.u32.wrap (x : Int) = (x : Int) := by rw [IntKind.wrap_u32]; omega
      clear kc0 kf0 kc3 kf3 hc0 hlt0 HTC hne RC HI3 TB3 HB4 BK2 HK4 O2 BG3 HB3 HI HB TB BG hi0 hz0 hz1 hz2
      go_wp2_with fail
      (with_reducible refine HP.out.mono ?_)
      rintro e w10 ⟨rfl, hp⟩
      obtain ⟨v10, h10⟩ := HNW.out.put hp
      have HW10 := Aside0.mk h10
      clear h10 hp HP HNW hwm
      obtain ⟨Z', t', hbl, hz'⟩ := step_copy l i Z t p m j x L b1 b2 (bN : Int) n back (by omega) HRW.out HN.out hp hj HB12.out.1 HB12.out.2 HMX.out.1 (by omega) HMX.out.2 (by omega) HSL.out HSD.out HLF.out.1 HLF.out.2.1 HLF.out.2.2.1 HLF.out.2.2.2 HJF.out.1 HJF.out.2 HZ.out
      have HZ2 := Aside0.mk hz'
      have HBL := Aside0.mk hbl
      clear hbl hz'
      go_wp2
      go_roundw
      case rel => exact ⟨i + 1, Z', t', v10, by go_num, by omega, ⟨by rw [← HBL.out, HLB.out, HR.out, HL2.out, HR2.out]; exact HW10.out⟩, HZ2⟩
      case measure => simp [intOf]; omega
  ·have di : decide ((i : Int) < (l.length : Int)) = false := decide_eq_false (by omega)
   have dib : decide (i < l.length) = false := decide_eq_false hlt
   obtain rfl : i = l.length := by omega
   have HI := Aside0.mk HW.out.1
   have HB := Aside0.mk HW.out.2.1
   have TB := Aside0.mk HW.out.2.2
   have BG := Aside0.mk HW.out.1.1
   obtain ⟨L, hL1, hL9, hLr, hLe, hcall⟩ := bits_fixA 256 (by decide) Aa Ax Ab Ay ca cx hca hcx wr TB.out
   rw [show ((256 : Nat) : Int) = 256 from rfl] at hcall
   have HTC := Aside0.mk hcall
   have HLF := Aside0.mk (And.intro hL1 (And.intro hL9 (And.intro hLr hLe)))
   obtain ⟨R, hR⟩ : ∃ R, bl (encV fixA 256) L = R := ⟨_, rfl⟩
   have HRL := Aside0.mk (show R.length ≤ 100 by rw [← hR, bl_len]; omega)
   rw [hR] at HTC
   have HR := Aside0.mk hR
   clear hcall hL1 hL9 hLr hLe hR HW hlt hi
   obtain ⟨i0, hi0, hz0, hz1, hz2⟩ := info_parts info5
   have hc0 : wr.cell? ⟨g, 0, none⟩ = some v := (blk_cell HI.out.1 0).trans rfl
   have hlt0 := blk_lt HI.out.1
   have hne := Aside0.mk HI.out.ne
   go_wp2_with fail
   go_region_law
    (first
     | ((refine step_append_vec (by rfl) _ _ _ (by rfl) w.heap.size 5 i0 _ 1 1 Try.underlying52 hi0 hz0 hz1 hz2 rfl (by omega) v Lb.length (encs (Value.int .u8) Lb) (by rfl) (by first | exact HI3.out.2.2 | exact HI3.out.2.2.drew) A1 R.length c1 (encs (Value.int .u8) R) (by rfl) (by simp [encs]) (cells_of_C RC.out) (by intro u hu; simp [encs] at hu; obtain ⟨_, _, rfl⟩ := hu; rfl) (by have := HLL.out; have := HRL.out; simp only [maxLen]; omega) (by have := HLL.out; have := HRL.out; omega) (by have := below_size HB3.out; first | omega | (simp; omega)) _ rfl ?_; intro A2 c2 w4 hown2 hgrow2 hat2; have O2 := Aside0.mk hown2; have BK2 := Aside0.mk (show w4.heap[g]? = some (.cells #[v] 112 (0, 0)) from (hgrow2.block g (blk_lt HI3.out.1) (fun e => hne.out e.symm)).trans HI3.out.1); have HB4 := Aside0.mk (show Below w.heap.size w w4 from Below.grown HB3.out hgrow2 (by have := below_size HB3.out; first | omega | (simp; omega)) (own_base HI3.out.2.2)); have HK4 := Aside0.mk (show KeepBut w3 w4 g (Value.ownBlock v) from KeepBut.of_grown hgrow2 g); clear hown2 hgrow2 hat2; have kc0 := (blk_cell BK2.out 0).trans rfl; have kf0 := blk_frozen BK2.out 0))
     | ((go_simp; go_at_call 65; (with_reducible refine (HTC.out _ (by first | exact Below.refl _ _ | exact below_drew1 (Below.refl _ _))).mono ?_); rintro e w3 ⟨vv, rfl, hO, hb⟩; have hb3 := below_step (by first | exact Below.refl (wr).heap.size wr | exact below_drew1 (Below.refl (wr).heap.size wr)) hb; have HI3 := Aside0.mk (HI.out.below hb3); have HB3 := Aside0.mk (below_step HB.out hb3); have TB3 := Aside0.mk (TB.out.below hb3); have BG3 := Aside0.mk (blk_below BG.out hb3); obtain ⟨A1, c1, rfl, hC⟩ := R_form hO; have RC := Aside0.mk hC; have kc3 : w3.cell? ⟨g, 0, none⟩ = some v := (blk_cell HI3.out.1 0).trans rfl; have kf3 := blk_frozen HI3.out.1 0; clear hO hb hb3 hC)))
   all_goals
    have HNW := Aside0.mk (TW.append HI3.out TB3.out HB4.out BK2.out HK4.out O2.out (by rw [List.length_append]) (by rw [encs_append]))
    obtain ⟨Z', hbl, z1, z2, z3, z4, z5⟩ := step_end l Z t L HLF.out.1 HLF.out.2.1 HLF.out.2.2.1 HLF.out.2.2.2 hl HZ.out
    have HZ2 := Aside0.mk (And.intro z1 (And.intro z2 (And.intro z3 (And.intro z4 z5))))
    have HBL := Aside0.mk hbl
    have hc9 := (blk_cell HNW.out.1.1 0)
    clear hbl z1 z2 z3 z4 z5 kc0 kf0 kc3 kf3 hc0 hlt0 HTC
    go_wp2
    go_ret
    exact ⟨Z', t, t + L, _, rfl, by rw [← HBL.out, HLB.out, HR.out]; exact Kd.R_of_own (enc := Value.int .u8) (h1 := fun _ => rfl) HNW.out.1.2.2 (fun _ _ => trivial), HNW.out.2.1, HZ2.out.1, HZ2.out.2.1, HZ2.out.2.2.1, HZ2.out.2.2.2.1, HZ2.out.2.2.2.2⟩
end Go.Proofs.Ytmanmjjjepdhlaa.XPrefix
