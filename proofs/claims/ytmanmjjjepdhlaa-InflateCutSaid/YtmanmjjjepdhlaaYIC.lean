/- Several texts of this seat's proofs, joined: YInf11, YInf12, YInfQ, YInf13, YInf14, YInf15. It has no conditions. -/
import Derived.Test.YtmanmjjjepdhlaaYIB
import Derived.BigRegion
import Derived.RegionTactic
import Derived.ChangeAlike
import Derived.Deep.RegionWith
import Derived.Deep.RegionLaw
import Derived.Laws.Tables
import Derived.Deep.QuietTactic
import Derived.BigQuiet
import Derived.Deep.RegionHeld3
import Derived.Deep.AppendLies
import Derived.Deep.DrawnRows
import Derived.Laws.CopyOwn
import Derived.Deep.MidRow
import Derived.Laws.ResultCell
import Derived.ChangeKeysEq
import Derived.Laws.BitsAllLaws
namespace Go.Proofs.Ytmanmjjjepdhlaa.XPrefix
set_option linter.unusedVariables false
set_option linter.unusedSimpArgs false
open Go.RowKit Go.Proofs.YtmanmjjjepdhlaaW.PrintWords Go.Proofs.YtmanmjjjepdhlaaW.PrintLast Go.Proofs.YtmanmjjjepdhlaaW.PrintMore
attribute [local go_sem] max2_int min2_int max_two min_two max_three min_three max_four min_four


open XInflateAny XTok
/-- A row that is laid up to i. -/
def upTo (F : List Int) (i : Nat) : List Int := F.take i ++ List.replicate (F.length - i) 0
theorem upTo_len (F : List Int) (i : Nat) (h : i ≤ F.length) : (upTo F i).length = F.length := by
  simp [upTo]; omega
theorem upTo_set (F : List Int) (i : Nat) (h : i < F.length) : (upTo F i).set i (rd F (i : Int)) = upTo F (i + 1) := by
  unfold upTo rd
  rw [Int.toNat_natCast, List.getD_eq_getElem?_getD, List.getElem?_eq_getElem h, Option.getD_some, List.set_append, if_neg (by simp; omega), List.take_succ_eq_append_getElem h, show F.length - i = (F.length - (i + 1)) + 1 from by omega, List.replicate_succ, List.append_assoc]
  congr 1
  rw [show i - (F.take i).length = 0 from by simp; omega]
  rfl
theorem upTo_end (F : List Int) : upTo F F.length = F := by simp [upTo]
theorem fix_ok (F : List Int) (h1 : F.length ≤ 288) (h2 : (F.all fun x => decide (0 ≤ x ∧ x ≤ 15)) = true) (h3 : docK F = (0, 0)) : KRes F 0 0 := by
  have ok : OkL F := ⟨h1, fun i hi => by
    have := List.all_eq_true.1 h2 _ (List.getElem_mem hi)
    unfold rd
    rw [Int.toNat_natCast, List.getD_eq_getElem?_getD, List.getElem?_eq_getElem hi, Option.getD_some]
    simpa using this⟩
  obtain ⟨k, e, hK⟩ := KRes.some F
  have := doc_of _ _ _ hK ok
  rw [h3] at this
  injection this with h4 h5
  rw [← h4, ← h5] at hK
  exact hK
theorem fixA_ok : KRes fixA 0 0 := fix_ok _ (by decide +kernel) (by decide +kernel) (by decide +kernel)
theorem fixB_ok : KRes fixB 0 0 := fix_ok _ (by decide +kernel) (by decide +kernel) (by decide +kernel)
theorem fixA_len : fixA.length = 288 := by decide +kernel
theorem fixB_len : fixB.length = 32 := by decide +kernel
theorem fixA_at : ∀ i : Fin 288, rd fixA (i.val : Int) = if i.val < 144 ∨ 280 ≤ i.val then 8 else if i.val < 256 then 9 else 7 := by decide +kernel
theorem fixB_at : ∀ i : Fin 32, rd fixB (i.val : Int) = 5 := by decide +kernel
set_option maxHeartbeats 4000000 in
set_option maxRecDepth 100000 in
theorem plain_calls (w : World) :
    Calls Try.prog 120 #[] w fun e w' => ∃ ga gb ba bb, e = .returned (.tuple #[.pointer (some ⟨ga, 0, none⟩), .pointer (some ⟨gb, 0, none⟩)]) ∧ IsT ba w' ga fixA 0 ∧ IsT bb w' gb fixB 0 ∧ Below w.heap.size w w' := by
  go_enter Try.func120, Try.ntmps120
  go_wp2_with (first | ((with_reducible refine gate_dst (N := 2) rfl ?_); refine box_event rfl (N := 2) rfl (cs := (encs (Value.int .i64) (upTo fixA 0)).toArray) (t := 164) (by kernel_rfl) ?_; intro gl hg w1 hblk hb; have GL := Aside0.mk (Nat.le_of_eq hg.symm); have BK1 := Aside0.mk hblk; have HB1 := Aside0.mk hb; clear hg hblk hb))
  go_loopw [10] (fun v10 wr => ∃ i : Nat, v10 = .int .i64 (i : Int) ∧ i ≤ 288 ∧ Aside0 (Below w.heap.size w wr) ∧ Aside0 (wr.heap[gl]? = some (.cells (encs (Value.int .i64) (upTo fixA i)).toArray 164 (0, 0)))) (fun v10 _ => 288 + 1 - (intOf v10).toNat)
  case atStart => exact ⟨0, rfl, by omega, HB1, BK1⟩
  case round =>
    clear HB1 BK1
    obtain ⟨i, rfl, hi, HB, BK⟩ := hrel
    by_cases hlt : i < 288
    · have di : decide ((i : Int) < 288) = true := decide_eq_true (by omega)
      have p1 : 0 ≤ (i : Int) := by omega
      have q1 : (i : Int) < 288 := by omega
      have hcl := blk_cell BK.out i
      have hcf := blk_frozen BK.out i
      have hlen : (encs (Value.int .i64) (upTo fixA i)).toArray.size = 288 := by simp [encs]; rw [upTo_len _ _ (by rw [fixA_len]; omega), fixA_len]
      obtain ⟨u, hu⟩ : ∃ u, (encs (Value.int .i64) (upTo fixA i)).toArray[i]? = some u := ⟨_, Array.getElem?_eq_getElem (by rw [hlen]; exact hlt)⟩
      rw [hu] at hcl
      clear hu hlen
      have hat := fixA_at ⟨i, by omega⟩
      change rd fixA (i : Int) = if i < 144 ∨ 280 ≤ i then 8 else if i < 256 then 9 else 7 at hat
      by_cases c1 : i < 144
      · have d1 : decide ((i : Int) < 144) = true := decide_eq_true (by omega)
        rw [if_pos (.inl c1)] at hat
        have HNX := Aside0.mk (show (upTo fixA i).set i 8 = upTo fixA (i + 1) by rw [← hat]; exact upTo_set fixA i (by rw [fixA_len]; omega))
        clear hat
        go_wp2_with fail
        go_roundw
        case rel => exact ⟨i + 1, by go_num, by omega, ⟨below_set HB.out GL.out⟩, ⟨blk_put BK.out i _ (by rw [encs_set, HNX.out])⟩⟩
        case measure => simp [intOf]; omega
      have d1 : decide ((i : Int) < 144) = false := decide_eq_false (by omega)
      by_cases c2 : 280 ≤ i
      · have d2 : decide (280 ≤ (i : Int)) = true := decide_eq_true (by omega)
        rw [if_pos (.inr c2)] at hat
        have HNX := Aside0.mk (show (upTo fixA i).set i 8 = upTo fixA (i + 1) by rw [← hat]; exact upTo_set fixA i (by rw [fixA_len]; omega))
        clear hat
        go_wp2_with fail
        go_roundw
        case rel => exact ⟨i + 1, by go_num, by omega, ⟨below_set HB.out GL.out⟩, ⟨blk_put BK.out i _ (by rw [encs_set, HNX.out])⟩⟩
        case measure => simp [intOf]; omega
      have d2 : decide (280 ≤ (i : Int)) = false := decide_eq_false (by omega)
      rw [if_neg (by omega)] at hat
      by_cases c3 : i < 256
      · have d3 : decide ((i : Int) < 256) = true := decide_eq_true (by omega)
        rw [if_pos c3] at hat
        have HNX := Aside0.mk (show (upTo fixA i).set i 9 = upTo fixA (i + 1) by rw [← hat]; exact upTo_set fixA i (by rw [fixA_len]; omega))
        clear hat
        go_wp2_with fail
        go_roundw
        case rel => exact ⟨i + 1, by go_num, by omega, ⟨below_set HB.out GL.out⟩, ⟨blk_put BK.out i _ (by rw [encs_set, HNX.out])⟩⟩
        case measure => simp [intOf]; omega
      have d3 : decide ((i : Int) < 256) = false := decide_eq_false (by omega)
      rw [if_neg c3] at hat
      have HNX := Aside0.mk (show (upTo fixA i).set i 7 = upTo fixA (i + 1) by rw [← hat]; exact upTo_set fixA i (by rw [fixA_len]; omega))
      clear hat
      go_wp2_with fail
      go_roundw
      case rel => exact ⟨i + 1, by go_num, by omega, ⟨below_set HB.out GL.out⟩, ⟨blk_put BK.out i _ (by rw [encs_set, HNX.out])⟩⟩
      case measure => simp [intOf]; omega
    obtain rfl : i = 288 := by omega
    have di : decide (((288 : Nat) : Int) < 288) = false := by decide
    have BA := Aside0.mk (show wr.heap[gl]? = some (.cells (encs (Value.int .i64) fixA).toArray 164 (0, 0)) from by have := BK.out; rwa [show upTo fixA 288 = fixA from by rw [← fixA_len]; exact upTo_end _] at this)
    have HBA := Aside0.mk HB.out
    clear BK HB hlt
    go_wp2_with (first | ((with_reducible refine gate_dst (N := 4) rfl ?_); refine box_event rfl (N := 4) rfl (cs := (encs (Value.int .i64) (upTo fixB 0)).toArray) (t := 165) (by kernel_rfl) ?_; intro g2 hg w2 hblk hb; have G2 := Aside0.mk (show w.heap.size ≤ g2 by have := below_size HBA.out; omega); have NE := Aside0.mk (show gl ≠ g2 by have := blk_lt BA.out; omega); have BK2 := Aside0.mk hblk; have BA2 := Aside0.mk (blk_below BA.out hb); have HB2 := Aside0.mk (below_step HBA.out hb); clear hg hblk hb))
    clear BA HBA di hi
    go_loopw [28] (fun v28 wr => ∃ i : Nat, v28 = .int .i64 (i : Int) ∧ i ≤ 32 ∧ Aside0 (Below w.heap.size w wr) ∧ Aside0 (wr.heap[g2]? = some (.cells (encs (Value.int .i64) (upTo fixB i)).toArray 165 (0, 0))) ∧ Aside0 (wr.heap[gl]? = some (.cells (encs (Value.int .i64) fixA).toArray 164 (0, 0)))) (fun v28 _ => 32 + 1 - (intOf v28).toNat)
    case atStart => exact ⟨0, rfl, by omega, HB2, BK2, BA2⟩
    case round =>
      clear HB2 BK2 BA2
      obtain ⟨i, rfl, hi, HB, BK, BA⟩ := hrel
      by_cases hlt : i < 32
      · have di : decide ((i : Int) < 32) = true := decide_eq_true (by omega)
        have p1 : 0 ≤ (i : Int) := by omega
        have q1 : (i : Int) < 32 := by omega
        have hcl := blk_cell BK.out i
        have hcf := blk_frozen BK.out i
        have hlen : (encs (Value.int .i64) (upTo fixB i)).toArray.size = 32 := by simp [encs]; rw [upTo_len _ _ (by rw [fixB_len]; omega), fixB_len]
        obtain ⟨u, hu⟩ : ∃ u, (encs (Value.int .i64) (upTo fixB i)).toArray[i]? = some u := ⟨_, Array.getElem?_eq_getElem (by rw [hlen]; exact hlt)⟩
        rw [hu] at hcl
        clear hu hlen
        have hat := fixB_at ⟨i, by omega⟩
        change rd fixB (i : Int) = 5 at hat
        have HNX := Aside0.mk (show (upTo fixB i).set i 5 = upTo fixB (i + 1) by rw [← hat]; exact upTo_set fixB i (by rw [fixB_len]; omega))
        clear hat
        go_wp2_with fail
        go_roundw
        case rel => exact ⟨i + 1, by go_num, by omega, ⟨below_set HB.out G2.out⟩, ⟨blk_put BK.out i _ (by rw [encs_set, HNX.out])⟩, ⟨(Below.heap_setCell _ ⟨g2, i, none⟩ _ gl NE.out).trans BA.out⟩⟩
        case measure => simp [intOf]; omega
      obtain rfl : i = 32 := by omega
      have di : decide (((32 : Nat) : Int) < 32) = false := by decide
      have BB := Aside0.mk (show wr.heap[g2]? = some (.cells (encs (Value.int .i64) fixB).toArray 165 (0, 0)) from by have := BK.out; rwa [show upTo fixB 32 = fixB from by rw [← fixB_len]; exact upTo_end _] at this)
      have HNA := Aside0.mk (fun W (h : Kd.C (Kd.int .i64) W (some ⟨gl, 0, none⟩) fixA.length fixA) => show Calls Try.prog 104 #[.slice (some ⟨gl, 0, none⟩) 288 288] W fun e w' => NewPost fixA W e w' from by have h3 := new_calls (some ⟨gl, 0, none⟩) 288 fixA W h; rwa [fixA_len] at h3)
      have HNB := Aside0.mk (fun W (h : Kd.C (Kd.int .i64) W (some ⟨g2, 0, none⟩) fixB.length fixB) => show Calls Try.prog 104 #[.slice (some ⟨g2, 0, none⟩) 32 32] W fun e w' => NewPost fixB W e w' from by have h3 := new_calls (some ⟨g2, 0, none⟩) 32 fixB W h; rwa [fixB_len] at h3)
      clear BK hlt
      go_wp2_with fail
      refine (HNA.out _ (C_of_block BA.out (by rw [fixA_len]; omega))).mono ?_
      rintro e w6 ⟨ka, ea, hKa, hb, hra⟩
      obtain ⟨rfl, rfl⟩ := fixA_ok.same hKa
      have HB6 := Aside0.mk (below_step HB.out hb)
      have BB6 := Aside0.mk (blk_below BB.out hb)
      clear hb hKa HNA
      rcases hra with ⟨hne, _⟩ | ⟨_, ga, rfl, hTa⟩
      · exact absurd rfl hne
      have HTa := Aside0.mk hTa
      clear hTa
      go_wp2_with fail
      refine (HNB.out _ (C_of_block BB6.out (by rw [fixB_len]; omega))).mono ?_
      rintro e w7 ⟨kb, eb, hKb, hb, hrb⟩
      obtain ⟨rfl, rfl⟩ := fixB_ok.same hKb
      have HB7 := Aside0.mk (below_step HB6.out hb)
      have HTa7 := Aside0.mk (HTa.out.below hb)
      clear hb hKb HNB HTa
      rcases hrb with ⟨hne, _⟩ | ⟨_, gb, rfl, hTb⟩
      · exact absurd rfl hne
      have HTb := Aside0.mk hTb
      clear hTb
      go_wp2
      go_ret2
      exact ⟨ga, gb, _, _, rfl, HTa7.out, HTb.out, HB7.out⟩



open XInflateAny XTok
theorem IsX.pushK {w0 W W2 w1 : World} {g gr n : Nat} {S : ByteArray} {p : Nat} {bad : Bool} {vo vk v1 : Value} {out ks k2 : List Int} {most : Int} {xs : List Value} (h : IsX w0 W g gr S p bad vo out most vk ks) (hb : Below W.heap.size W W2) (hg : W2.grownBy w1 vk.ownBlock)
    (hown : w1.ownsRow w0.heap.size 3 1 v1 n xs) (hn : k2.length = n) (hx : encs (Value.int .i64) k2 = xs) : IsX w0 (w1.setCell ⟨g, 3, none⟩ v1) g gr S p bad vo out most v1 k2 := by
  subst hn hx
  obtain ⟨h1, h2, h3, h4, h5, h6⟩ := h.below hb
  have k1 : w1.heap[g]? = some (.cells #[.pointer (some ⟨gr, 0, none⟩), vo, .int .i64 most, vk] 98 (0, 0)) := (hg.block g (blk_lt h1) (own_ne' h5 h1 (by decide))).trans h1
  have k3 : IsS155 w0 w1 gr S (p : Int) bad := h3.grown hg (own_ne' h5 h3.1 (by decide))
  have k4 : w1.ownsRow w0.heap.size 5 1 vo out.length (encs (Value.int .u8) out) := own_move h4 (fun k hk => hg.block k (own_lt h4 k hk) (fun e => by
    obtain ⟨c1, e1⟩ := own_typed h4 k hk
    obtain ⟨c2, e2⟩ := own_typed h5 k e.symm
    rw [e1] at e2
    injection e2 with e2
    injection e2 with _ e2
    exact absurd e2 (by decide)))
  have k6 : Below w0.heap.size w0 w1 := Below.grown h6 hg (below_size h6) (own_base h5)
  have m : ∀ {b : Nat} {e n : Nat} {u : Value} {ys : List Value}, w1.ownsRow b e 1 u n ys → e ≠ 98 → (w1.setCell ⟨g, 3, none⟩ v1).ownsRow b e 1 u n ys := fun ho he =>
    own_move ho (fun k hk => Below.heap_setCell w1 ⟨g, 3, none⟩ _ k (fun e => own_ne k1 ho he (hk.trans (by rw [e]))))
  exact ⟨blk_put k1 3 _ rfl, h2, k3.far (blk_ne k3.1 k1 (by decide)) _, m k4 (by decide), m hown (by decide), below_set k6 h2⟩
def BPost (w0 : World) (g gr : Nat) (S : ByteArray) (Z p : Nat) (out : List Int) (most : Int) (ks : List Int) (e : Ending) (w' : World) : Prop :=
  (∃ er b, ((8 * S.size < p + 3 ∧ er = 3) ∨ (¬ 8 * S.size < p + 3 ∧ bodyS Z (8 * S.size) most (Z / 2 ^ (p + 1) % 2 ^ 2) (p + 3) out = .error er)) ∧ e = .returned (.tuple #[.bool b, .int .i64 er]) ∧ Below w0.heap.size w0 w' ∧ er ≠ 0) ∨
  (∃ q o2 vo' vk', ¬ 8 * S.size < p + 3 ∧ bodyS Z (8 * S.size) most (Z / 2 ^ (p + 1) % 2 ^ 2) (p + 3) out = .ok (q, o2) ∧ e = .returned (.tuple #[.bool (((Z / 2 ^ p % 2 ^ 1 : Nat) : Int) == 1), .int .i64 0]) ∧ IsX w0 w' g gr S q false vo' o2 most vk' (ks ++ [((Z / 2 ^ (p + 1) % 2 ^ 2 : Nat) : Int)]) ∧ q ≤ 8 * S.size ∧ o2.length ≤ 4194304)
theorem bodyS2 {Z M : Nat} {most : Int} {p q : Nat} {out : List Int} (h : q = p) : bodyS Z M most 2 q out = (match ownS Z M p with
    | .error e => .error e
    | .ok (a, b, r) => codedS a b Z M most (M + 1) r out) := by subst h; rfl
set_option maxHeartbeats 4000000 in
set_option maxRecDepth 100000 in
theorem block_calls (g gr : Nat) (S : ByteArray) (Z p : Nat) (vo vk : Value) (out ks : List Int) (most : Int) (w0 w : World) (hX : IsX w0 w g gr S p false vo out most vk ks) (hZ : IsZ S Z) (hp : p ≤ 8 * S.size) (hm : most ≤ 4194304) (ho : out.length ≤ 4194304) (hk : ks.length ≤ 1000000) :
    Calls Try.prog 91 #[.pointer (some ⟨g, 0, none⟩)] w fun e w' => BPost w0 g gr S Z p out most ks e w' := by
  have HX := Aside0.mk hX
  have HZ := Aside0.mk hZ
  have hS := hZ.1
  clear hX hZ
  by_cases h1 : 8 * S.size < p + 3
  · have HH := Aside0.mk h1
    by_cases h2 : 8 * S.size < p + 1
    · have HN1 := Aside0.mk (fun W hX => number_bad g gr S p 1 false vo vk out ks most w0 W hX hS hp (.inr h2))
      have HN2 := Aside0.mk (fun W hX => number_bad g gr S p 2 true vo vk out ks most w0 W hX hS hp (.inl rfl))
      clear h1 h2
      go_enter Try.func91, Try.ntmps91
      go_wp2_with fail
      refine (HN1.out _ HX.out).mono ?_
      rintro e w1 ⟨rfl, hX1, hk1⟩
      have HX1 := Aside0.mk hX1
      clear hX1 hk1 HN1
      go_wp2_with fail
      refine (HN2.out _ HX1.out).mono ?_
      rintro e w2 ⟨rfl, hX2, hk2⟩
      have HX2 := Aside0.mk hX2
      clear hX2 hk2 HN2 HX1
      go_wp2
      go_ret2
      exact .inl ⟨3, _, .inl ⟨HH.out, rfl⟩, rfl, HX2.out.2.2.2.2.2, by decide⟩
    · have HN1 := Aside0.mk (fun W hX => number_ok g gr S Z p 1 vo vk out ks most w0 W hX HZ.out (by omega) (by omega))
      have HN2 := Aside0.mk (fun W hX => number_bad g gr S (p + 1) 2 false vo vk out ks most w0 W hX hS (by omega) (.inr (by omega)))
      clear h1 h2
      go_enter Try.func91, Try.ntmps91
      go_wp2_with fail
      refine (HN1.out _ HX.out).mono ?_
      rintro e w1 ⟨rfl, hX1, hk1⟩
      have HX1 := Aside0.mk hX1
      clear hX1 hk1 HN1
      go_wp2_with fail
      refine (HN2.out _ HX1.out).mono ?_
      rintro e w2 ⟨rfl, hX2, hk2⟩
      have HX2 := Aside0.mk hX2
      clear hX2 hk2 HN2 HX1
      go_wp2
      go_ret2
      exact .inl ⟨3, _, .inl ⟨HH.out, rfl⟩, rfl, HX2.out.2.2.2.2.2, by decide⟩
  have HH := Aside0.mk h1
  have HN1 := Aside0.mk (fun W hX => number_ok g gr S Z p 1 vo vk out ks most w0 W hX HZ.out (by omega) (by omega))
  have HN2 := Aside0.mk (fun W hX => number_ok g gr S Z (p + 1) 2 vo vk out ks most w0 W hX HZ.out (by omega) (by omega))
  unfold BPost
  obtain ⟨u, hu⟩ : ∃ u, Z / 2 ^ p % 2 ^ 1 = u := ⟨_, rfl⟩
  obtain ⟨kd, hkd⟩ : ∃ kd, Z / 2 ^ (p + 1) % 2 ^ 2 = kd := ⟨_, rfl⟩
  have hk4 : kd < 4 := by rw [← hkd]; exact Nat.mod_lt _ (by decide)
  rw [hu] at HN1 ⊢
  rw [hkd] at HN2 ⊢
  have hp3 : p + 3 ≤ 8 * S.size := by omega
  clear hu hkd h1
  go_enter Try.func91, Try.ntmps91
  go_wp2_with fail
  refine (HN1.out _ HX.out).mono ?_
  rintro e w1 ⟨rfl, hX1, hk1⟩
  have HX1 := Aside0.mk hX1
  clear hX1 hk1 HN1
  go_wp2_with fail
  refine (HN2.out _ HX1.out).mono ?_
  rintro e w2 ⟨rfl, hX2, hk2⟩
  have HX2 := Aside0.mk hX2
  clear hX2 hk2 HN2 HX1
  have hc3 := blk_cell HX2.out.1 3
  obtain ⟨A', c', rfl⟩ := own_form HX2.out.2.2.2.2.1
  have h3 : kd = 0 ∨ kd = 1 ∨ kd = 2 ∨ kd = 3 := by omega
  rcases h3 with e | e | e | e
  · have HKE := Aside0.mk e
    have f0 : ((kd : Int) == 0) = true := by rw [e]; rfl
    have f0b : (kd == 0) = true := by rw [e]; rfl
    clear e
    have HX2 := Aside0.mk (show IsX w0 w2 g gr S (p + 1 + 2) false vo out most (.slice A' ks.length c') ks from HX2.out)
    go_wp2_with (first | ((with_reducible refine gate_builtin (b := .append) (xs := #[.tmp 30, .tmp 32]) rfl ?_); at_builtin; refine print_append_cells (w0 := w0) w0.heap.size rfl (.tmp 30) (.tmp 32) 22 3 (.int .i64 0) 1 8 rfl Try.underlying22 info3 rfl (by decide) (by omega) (.slice A' ks.length c') ks.length (encs (Value.int .i64) ks) [.int .i64 (kd:Int)] rfl rfl rfl (by simp [Value.oneCell']) HX2.out.2.2.2.2.1 HX2.out.2.2.2.2.2 (below_size HX2.out.2.2.2.2.2) (by omega) ?_; intro v9 w9 ho9 hb9 hg9 hat9; obtain ⟨A9, c9, rfl⟩ := own_form ho9; have BK9 := Aside0.mk (show w9.heap[g]? = some (.cells #[.pointer (some ⟨gr, 0, none⟩), vo, .int .i64 most, .slice A' ks.length c'] 98 (0, 0)) from (hg9.block g (blk_lt HX2.out.1) (own_ne' HX2.out.2.2.2.2.1 HX2.out.1 (by decide))).trans HX2.out.1); have HX3 := Aside0.mk (IsX.pushK (k2 := ks ++ [(kd:Int)]) HX2.out (Below.refl _ _) hg9 ho9 (by simp) (by rw [encs_append]; rfl)); have hk9 : w9.cell? ⟨g, 3, none⟩ = some (.slice A' ks.length c') := (blk_cell BK9.out 3).trans rfl; have hz_9 := blk_frozen BK9.out 3; clear ho9 hb9 hg9 hat9 hc3))
    go_wp2_with fail
    refine (stored_calls g gr S Z (p + 1 + 2) vo _ out (ks ++ [(kd : Int)]) most w0 _ HX3.out HZ.out (by omega) hm ho).mono ?_
    rintro e w4 h4
    rcases h4 with ⟨er, hRe, rfl, hb, hne⟩ | ⟨q2, o2, hRo, rfl, ⟨v2, hX5, _, _⟩, hq2, hl2⟩
    · have HRE := Aside0.mk hRe
      have HB := Aside0.mk hb
      have H1 := Aside0.mk hne
      clear hRe hb hne
      go_wp2
      go_ret2
      exact .inl ⟨er, _, .inr ⟨HH.out, by rw [HKE.out]; exact HRE.out⟩, rfl, HB.out, H1.out⟩
    · have HRO2 := Aside0.mk hRo
      have HX5 := Aside0.mk hX5
      clear hRo hX5
      go_wp2
      go_ret2
      exact .inr ⟨q2, o2, v2, _, HH.out, by rw [HKE.out]; exact HRO2.out, rfl, HX5.out, hq2, hl2⟩
  · have HKE := Aside0.mk e
    have f0 : ((kd : Int) == 0) = false := by rw [e]; rfl
    have f0b : (kd == 0) = false := by rw [e]; rfl
    have f1 : ((kd : Int) == 1) = true := by rw [e]; rfl
    have f1b : (kd == 1) = true := by rw [e]; rfl
    clear e
    have HX2 := Aside0.mk (show IsX w0 w2 g gr S (p + 1 + 2) false vo out most (.slice A' ks.length c') ks from HX2.out)
    go_wp2_with (first | ((with_reducible refine gate_builtin (b := .append) (xs := #[.tmp 30, .tmp 32]) rfl ?_); at_builtin; refine print_append_cells (w0 := w0) w0.heap.size rfl (.tmp 30) (.tmp 32) 22 3 (.int .i64 0) 1 8 rfl Try.underlying22 info3 rfl (by decide) (by omega) (.slice A' ks.length c') ks.length (encs (Value.int .i64) ks) [.int .i64 (kd:Int)] rfl rfl rfl (by simp [Value.oneCell']) HX2.out.2.2.2.2.1 HX2.out.2.2.2.2.2 (below_size HX2.out.2.2.2.2.2) (by omega) ?_; intro v9 w9 ho9 hb9 hg9 hat9; obtain ⟨A9, c9, rfl⟩ := own_form ho9; have BK9 := Aside0.mk (show w9.heap[g]? = some (.cells #[.pointer (some ⟨gr, 0, none⟩), vo, .int .i64 most, .slice A' ks.length c'] 98 (0, 0)) from (hg9.block g (blk_lt HX2.out.1) (own_ne' HX2.out.2.2.2.2.1 HX2.out.1 (by decide))).trans HX2.out.1); have HX3 := Aside0.mk (IsX.pushK (k2 := ks ++ [(kd:Int)]) HX2.out (Below.refl _ _) hg9 ho9 (by simp) (by rw [encs_append]; rfl)); have hk9 : w9.cell? ⟨g, 3, none⟩ = some (.slice A' ks.length c') := (blk_cell BK9.out 3).trans rfl; have hz_9 := blk_frozen BK9.out 3; clear ho9 hb9 hg9 hat9 hc3))
    go_wp2_with fail
    refine (plain_calls _).mono ?_
    rintro e w4 ⟨ga, gb, ba, bb, rfl, hTa, hTb, hb⟩
    have HX4 := Aside0.mk (HX3.out.below hb)
    have HTa := Aside0.mk hTa
    have HTb := Aside0.mk hTb
    clear hTa hTb hb HX3
    go_wp2_with fail
    refine (coded_calls ba bb ga gb g gr fixA fixB 0 0 S Z (p + 1 + 2) vo _ out (ks ++ [(kd : Int)]) most w0 _ HX4.out HTa.out fixA_ok HTb.out fixB_ok HZ.out (by omega) hm ho).mono ?_
    rintro e w5 h4
    rcases h4 with ⟨er, hRe, rfl, hb, hne⟩ | ⟨q2, o2, hRo, rfl, ⟨v2, hX5, _, _⟩, hq2, hl2⟩
    · have HRE := Aside0.mk hRe
      have HB := Aside0.mk hb
      have H1 := Aside0.mk hne
      clear hRe hb hne
      go_wp2
      go_ret2
      exact .inl ⟨er, _, .inr ⟨HH.out, by rw [HKE.out]; exact HRE.out⟩, rfl, HB.out, H1.out⟩
    · have HRO2 := Aside0.mk hRo
      have HX5 := Aside0.mk hX5
      clear hRo hX5
      go_wp2
      go_ret2
      exact .inr ⟨q2, o2, v2, _, HH.out, by rw [HKE.out]; exact HRO2.out, rfl, HX5.out, hq2, hl2⟩
  · have HKE := Aside0.mk e
    have f0 : ((kd : Int) == 0) = false := by rw [e]; rfl
    have f0b : (kd == 0) = false := by rw [e]; rfl
    have f1 : ((kd : Int) == 1) = false := by rw [e]; rfl
    have f1b : (kd == 1) = false := by rw [e]; rfl
    have f2 : ((kd : Int) == 2) = true := by rw [e]; rfl
    have f2b : (kd == 2) = true := by rw [e]; rfl
    clear e
    have HX2 := Aside0.mk (show IsX w0 w2 g gr S (p + 1 + 2) false vo out most (.slice A' ks.length c') ks from HX2.out)
    go_wp2_with (first | ((with_reducible refine gate_builtin (b := .append) (xs := #[.tmp 30, .tmp 32]) rfl ?_); at_builtin; refine print_append_cells (w0 := w0) w0.heap.size rfl (.tmp 30) (.tmp 32) 22 3 (.int .i64 0) 1 8 rfl Try.underlying22 info3 rfl (by decide) (by omega) (.slice A' ks.length c') ks.length (encs (Value.int .i64) ks) [.int .i64 (kd:Int)] rfl rfl rfl (by simp [Value.oneCell']) HX2.out.2.2.2.2.1 HX2.out.2.2.2.2.2 (below_size HX2.out.2.2.2.2.2) (by omega) ?_; intro v9 w9 ho9 hb9 hg9 hat9; obtain ⟨A9, c9, rfl⟩ := own_form ho9; have BK9 := Aside0.mk (show w9.heap[g]? = some (.cells #[.pointer (some ⟨gr, 0, none⟩), vo, .int .i64 most, .slice A' ks.length c'] 98 (0, 0)) from (hg9.block g (blk_lt HX2.out.1) (own_ne' HX2.out.2.2.2.2.1 HX2.out.1 (by decide))).trans HX2.out.1); have HX3 := Aside0.mk (IsX.pushK (k2 := ks ++ [(kd:Int)]) HX2.out (Below.refl _ _) hg9 ho9 (by simp) (by rw [encs_append]; rfl)); have hk9 : w9.cell? ⟨g, 3, none⟩ = some (.slice A' ks.length c') := (blk_cell BK9.out 3).trans rfl; have hz_9 := blk_frozen BK9.out 3; clear ho9 hb9 hg9 hat9 hc3))
    go_wp2_with fail
    refine (own_calls g gr S Z (p + 1 + 2) vo _ out (ks ++ [(kd : Int)]) most w0 _ HX3.out HZ.out (by omega)).mono ?_
    rintro e w4 h4
    rcases h4 with ⟨er, hRe, rfl, hb, hne⟩ | ⟨la, lb, q, ga, gb, ba, bb, hRo, rfl, hTa, hTb, ea, eb, hX4, hk4, hq⟩
    · have H1 := Aside0.mk hne
      have HB := Aside0.mk hb
      have HRE := Aside0.mk hRe
      have q0 : (er == 0) = false := beq_eq_false_iff_ne.mpr hne
      have q1 : (er != 0) = true := bne_iff_ne.mpr hne
      clear hne hb hRe
      go_wp2
      go_ret2
      exact .inl ⟨er, _, .inr ⟨HH.out, by rw [HKE.out, bodyS2 (show p + 3 = p + 1 + 2 from rfl), HRE.out]⟩, rfl, HB.out, H1.out⟩
    · have HRO := Aside0.mk hRo
      have HX4 := Aside0.mk hX4
      have HTa := Aside0.mk hTa
      have HTb := Aside0.mk hTb
      have HKa := Aside0.mk (show KRes la (kS la) 0 from ea ▸ kS_spec la)
      have HKb := Aside0.mk (show KRes lb (kS lb) 0 from eb ▸ kS_spec lb)
      clear hRo hX4 hk4 hTa hTb ea eb
      go_wp2_with fail
      refine (coded_calls ba bb ga gb g gr la lb (kS la) (kS lb) S Z q vo _ out (ks ++ [(kd : Int)]) most w0 _ HX4.out HTa.out HKa.out HTb.out HKb.out HZ.out hq hm ho).mono ?_
      rintro e w5 h4
      rcases h4 with ⟨er, hRe, rfl, hb, hne⟩ | ⟨q2, o2, hRo, rfl, ⟨v2, hX5, _, _⟩, hq2, hl2⟩
      · have HRE := Aside0.mk hRe
        have HB := Aside0.mk hb
        have H1 := Aside0.mk hne
        clear hRe hb hne
        go_wp2
        go_ret2
        exact .inl ⟨er, _, .inr ⟨HH.out, by rw [HKE.out,bodyS2 (show p + 3 = p + 1 + 2 from rfl),HRO.out]; exact HRE.out⟩, rfl, HB.out, H1.out⟩
      · have HRO2 := Aside0.mk hRo
        have HX5 := Aside0.mk hX5
        clear hRo hX5
        go_wp2
        go_ret2
        exact .inr ⟨q2, o2, v2, _, HH.out, by rw [HKE.out,bodyS2 (show p + 3 = p + 1 + 2 from rfl),HRO.out]; exact HRO2.out, rfl, HX5.out, hq2, hl2⟩
  · have HKE := Aside0.mk e
    have f0 : ((kd : Int) == 0) = false := by rw [e]; rfl
    have f0b : (kd == 0) = false := by rw [e]; rfl
    have f1 : ((kd : Int) == 1) = false := by rw [e]; rfl
    have f1b : (kd == 1) = false := by rw [e]; rfl
    have f2 : ((kd : Int) == 2) = false := by rw [e]; rfl
    have f2b : (kd == 2) = false := by rw [e]; rfl
    clear e
    have HX2 := Aside0.mk (show IsX w0 w2 g gr S (p + 1 + 2) false vo out most (.slice A' ks.length c') ks from HX2.out)
    go_wp2_with (first | ((with_reducible refine gate_builtin (b := .append) (xs := #[.tmp 30, .tmp 32]) rfl ?_); at_builtin; refine print_append_cells (w0 := w0) w0.heap.size rfl (.tmp 30) (.tmp 32) 22 3 (.int .i64 0) 1 8 rfl Try.underlying22 info3 rfl (by decide) (by omega) (.slice A' ks.length c') ks.length (encs (Value.int .i64) ks) [.int .i64 (kd:Int)] rfl rfl rfl (by simp [Value.oneCell']) HX2.out.2.2.2.2.1 HX2.out.2.2.2.2.2 (below_size HX2.out.2.2.2.2.2) (by omega) ?_; intro v9 w9 ho9 hb9 hg9 hat9; obtain ⟨A9, c9, rfl⟩ := own_form ho9; have BK9 := Aside0.mk (show w9.heap[g]? = some (.cells #[.pointer (some ⟨gr, 0, none⟩), vo, .int .i64 most, .slice A' ks.length c'] 98 (0, 0)) from (hg9.block g (blk_lt HX2.out.1) (own_ne' HX2.out.2.2.2.2.1 HX2.out.1 (by decide))).trans HX2.out.1); have HX3 := Aside0.mk (IsX.pushK (k2 := ks ++ [(kd:Int)]) HX2.out (Below.refl _ _) hg9 ho9 (by simp) (by rw [encs_append]; rfl)); have hk9 : w9.cell? ⟨g, 3, none⟩ = some (.slice A' ks.length c') := (blk_cell BK9.out 3).trans rfl; have hz_9 := blk_frozen BK9.out 3; clear ho9 hb9 hg9 hat9 hc3))
    go_wp2
    go_ret2
    exact .inl ⟨2, _, .inr ⟨HH.out, by rw [HKE.out]; rfl⟩, rfl, HX3.out.2.2.2.2.2, by decide⟩



open XInflateAny XTok
theorem distS_q {lb : List Int} {Z M p : Nat} {far : Int} {q : Nat} (hp : p ≤ M) (h : distS lb Z M p = .ok (far, q)) : q ≤ M ∧ p ≤ q := by
  have hle := readA_le lb (kS lb) Z M p hp
  unfold distS at h
  by_cases h1 : (readA lb (kS lb) Z M p).2.1 ≠ 0
  · rw [if_pos h1] at h; cases h
  rw [if_neg h1] at h
  have h0 : (readA lb (kS lb) Z M p).2.1 = 0 := by omega
  have := (hle.2 h0).2
  split at h
  · cases h
  · split at h
    · cases h
    · injection h with h; injection h with _ h; omega
theorem backS_q {lb : List Int} {Z M : Nat} {most : Int} {s : Int} {p : Nat} {out : List Int} {q : Nat} {o2 : List Int} (h : backS lb Z M most s p out = .ok (q, o2)) : q ≤ M ∧ p ≤ q := by
  unfold backS at h
  obtain ⟨R1, hR1⟩ : ∃ R, lenS Z M s p = R := ⟨_, rfl⟩
  rw [hR1] at h
  rcases R1 with e1 | ⟨n, p1⟩
  · cases h
  obtain ⟨a1, a2, a3, a4⟩ := lenS_p hR1
  change (match distS lb Z M p1 with
    | .error e => .error e
    | .ok (far, r) => if (out.length : Int) < far then .error 2 else if most < (out.length : Int) + n then .error 7 else .ok (r, copyS far.toNat n.toNat out)) = Except.ok (q, o2) at h
  obtain ⟨R2, hR2⟩ : ∃ R, distS lb Z M p1 = R := ⟨_, rfl⟩
  rw [hR2] at h
  rcases R2 with e2 | ⟨far, p2⟩
  · cases h
  obtain ⟨b1, b2⟩ := distS_q a1 hR2
  change (if (out.length : Int) < far then Except.error (2 : Int) else if most < (out.length : Int) + n then .error 7 else .ok (p2, copyS far.toNat n.toNat out)) = .ok (q, o2) at h
  split at h
  · cases h
  · split at h
    · cases h
    · injection h with h; injection h with h _; omega
theorem codedS_q (la lb : List Int) (Z M : Nat) (most : Int) : ∀ (f p : Nat) (out : List Int) (q : Nat) (o2 : List Int), p ≤ M → codedS la lb Z M most f p out = .ok (q, o2) → q ≤ M ∧ p ≤ q
  | 0, p, out, q, o2, hp, h => by rw [codedS] at h; injection h with h; injection h with h _; omega
  | f + 1, p, out, q, o2, hp, h => by
    have hle := readA_le la (kS la) Z M p hp
    rw [codedS] at h
    by_cases h1 : (readA la (kS la) Z M p).2.1 ≠ 0
    · rw [if_pos h1] at h; cases h
    rw [if_neg h1] at h
    have h0 := (hle.2 (by omega)).2
    by_cases h2 : (readA la (kS la) Z M p).1 = 256
    · rw [if_pos h2] at h; injection h with h; injection h with h _; omega
    rw [if_neg h2] at h
    by_cases h3 : 256 < (readA la (kS la) Z M p).1
    · rw [if_pos h3] at h
      obtain ⟨B, hB⟩ : ∃ B, backS lb Z M most (readA la (kS la) Z M p).1 (readA la (kS la) Z M p).2.2.1 out = B := ⟨_, rfl⟩
      rw [hB] at h
      rcases B with eb | ⟨r, o3⟩
      · cases h
      · obtain ⟨c1, c2⟩ := backS_q hB
        have := codedS_q la lb Z M most f r o3 q o2 c1 h
        omega
    rw [if_neg h3] at h
    split at h
    · cases h
    · have := codedS_q la lb Z M most f _ _ q o2 hle.1 h
      omega
theorem rowS_q (l1 : List Int) (Z M n : Nat) : ∀ (f : Nat) (out : List Int) (p : Nat) (l : List Int) (q : Nat), p ≤ M → rowS l1 Z M n f out p = .ok (l, q) → p ≤ q ∧ q ≤ M
  | 0, out, p, l, q, hp, h => by rw [rowS] at h; injection h with h; injection h with _ h; omega
  | f + 1, out, p, l, q, hp, h => by
    have hle := readA_le l1 (kS l1) Z M p hp
    rw [rowS] at h
    by_cases c1 : n ≤ out.length
    · rw [if_pos c1] at h
      injection h with h; injection h with _ h
      omega
    rw [if_neg c1] at h
    by_cases c2 : (readA l1 (kS l1) Z M p).2.1 ≠ 0
    · rw [if_pos c2] at h; cases h
    rw [if_neg c2] at h
    have h0 := (hle.2 (by omega)).2
    by_cases c3 : (readA l1 (kS l1) Z M p).1 < 16
    · rw [if_pos c3] at h
      have := rowS_q l1 Z M n f _ _ l q hle.1 h
      omega
    rw [if_neg c3] at h
    by_cases c4 : (readA l1 (kS l1) Z M p).1 = 16 ∧ out.length = 0
    · rw [if_pos c4] at h; cases h
    rw [if_neg c4] at h
    by_cases c5 : M < (readA l1 (kS l1) Z M p).2.2.1 + againB (readA l1 (kS l1) Z M p).1
    · rw [if_pos c5] at h; cases h
    rw [if_neg c5] at h
    split at h
    · cases h
    · have := rowS_q l1 Z M n f _ _ l q (by omega) h
      omega
theorem ownS_q {Z M p : Nat} {a b : List Int} {q : Nat} (hp : p ≤ M) (h : ownS Z M p = .ok (a, b, q)) : p ≤ q ∧ q ≤ M := by
  unfold ownS at h
  split at h
  · cases h
  · unfold ownS2 at h
    split at h
    · cases h
    · split at h
      · cases h
      · split at h
        · cases h
        · unfold ownS3 at h
          obtain ⟨R, hR⟩ : ∃ R, rowS (firstL Z (p + 14) (Z / 2 ^ (p + 10) % 2 ^ 4 + 4)) Z M (Z / 2 ^ p % 2 ^ 5 + 257 + (Z / 2 ^ (p + 5) % 2 ^ 5 + 1)) (Z / 2 ^ p % 2 ^ 5 + 257 + (Z / 2 ^ (p + 5) % 2 ^ 5 + 1) + 1) [] (p + 14 + 3 * (Z / 2 ^ (p + 10) % 2 ^ 4 + 4)) = R := ⟨_, rfl⟩
          rw [hR] at h
          rcases R with e | ⟨l, r⟩
          · cases h
          · have h9 := rowS_q _ Z M _ _ _ _ l r (by omega) hR
            change (if rd l 256 = 0 then Except.error (2 : Int) else if eS _ ≠ 0 ∨ eS _ ≠ 0 then .error 10 else .ok (_, _, r)) = _ at h
            split at h
            · cases h
            · split at h
              · cases h
              · injection h with h; injection h with _ h; injection h with _ h; omega
theorem bodyS_q {Z M : Nat} {most : Int} {kind p : Nat} {out : List Int} {q : Nat} {o2 : List Int} (hp : p ≤ M) (h : bodyS Z M most kind p out = .ok (q, o2)) : p ≤ q := by
  unfold bodyS at h
  split at h
  · unfold storedS storedS2 at h
    split at h
    · cases h
    · split at h
      · cases h
      · split at h
        · cases h
        · split at h
          · cases h
          · injection h with h; injection h with h _; omega
  · split at h
    · exact (codedS_q _ _ Z M most _ _ _ q o2 hp h).2
    · split at h
      · obtain ⟨R, hR⟩ : ∃ R, ownS Z M p = R := ⟨_, rfl⟩
        rw [hR] at h
        rcases R with e | ⟨a, b, r⟩
        · cases h
        · have h1 := ownS_q hp hR
          have := codedS_q _ _ Z M most _ _ _ q o2 h1.2 h
          omega
      · cases h



open XInflateAny XTok
def SPost (w : World) (S : ByteArray) (R : Except Int (Nat × List Int × List Int)) (e : Ending) (w' : World) : Prop :=
  (∃ er g, R = .error er ∧ e = .returned (.tuple #[.pointer (some ⟨g, 0, none⟩), .int .i64 er]) ∧ Below w.heap.size w w' ∧ er ≠ 0) ∨
  (∃ q o2 k2 g gr vo vk mm, R = .ok (q, o2, k2) ∧ e = .returned (.tuple #[.pointer (some ⟨g, 0, none⟩), .int .i64 0]) ∧ IsX w w' g gr S q false vo o2 mm vk k2 ∧ q ≤ 8 * S.size ∧ o2.length ≤ 4194304)
def mostS (most : Int) : Int := if 4194304 < most then 4194304 else most
set_option maxHeartbeats 4000000 in
set_option maxRecDepth 100000 in
theorem readX_calls (S : ByteArray) (Z : Nat) (most : Int) (w : World) (hZ : IsZ S Z) :
    Calls Try.prog 57 #[.string S, .int .i64 most] w fun e w' => SPost w S (streamS Z (8 * S.size) (mostS most) (8 * S.size + 1) 0 [] []) e w' := by
  obtain ⟨mm, hmm⟩ : ∃ mm, mostS most = mm := ⟨_, rfl⟩
  have hm4 : mm ≤ 4194304 := by rw [← hmm]; unfold mostS; split <;> omega
  have HZ := Aside0.mk hZ
  rw [hmm]
  have HMM := Aside0.mk hmm
  clear hZ hmm
  go_enter Try.func57, Try.ntmps57
  by_cases hbig : most ≤ 4194304
  · have d0 : decide (4194304 < most) = false := decide_eq_false (by omega)
    obtain rfl : most = mm := by rw [← HMM.out]; unfold mostS; rw [if_neg (by omega)]
    go_wp2_with fail
    refine (bits_NewReader.calls S S 0 false w w (Below.refl _ _) rfl).mono ?_
    rintro e w1 ⟨gr, rfl, hI, hB, _⟩
    have HI1 := Aside0.mk hI
    have HB1 := Aside0.mk hB
    clear hI hB
    have HX1 := Aside0.mk (show IsX w (w1.alloc (.cells #[.pointer (some ⟨gr, 0, none⟩), .slice none 0 0, .int .i64 most, .slice none 0 0] 98)) w1.heap.size gr S 0 false (.slice none 0 0) [] most (.slice none 0 0) [] from ⟨heap_alloc_new w1 _, below_size HB1.out, HI1.out.alloc _, Kd.own_of_R (enc := Value.int .u8) (h1 := fun _ => rfl) (Kd.R_nil (Kd.int .u8) 5 _ _ (fun _ => True)), Kd.own_of_R (enc := Value.int .i64) (h1 := fun _ => rfl) (Kd.R_nil (Kd.int .i64) 3 _ _ (fun _ => True)), below_alloc HB1.out _⟩)
    obtain ⟨R, hR⟩ : ∃ R, streamS Z (8 * S.size) most (8 * S.size + 1) 0 [] [] = R := ⟨_, rfl⟩
    have HR := Aside0.mk hR
    have HSP := Aside0.mk (show ∀ e w', SPost w S R e w' → SPost w S (streamS Z (8 * S.size) most (8 * S.size + 1) 0 [] []) e w' from fun e w' h => by rw [hR]; exact h)
    clear hR
    go_wp2_with fail
    go_loopg [] (8 * S.size + 1) (fun f wr => ∃ (p' : Nat) (vo' vk' : Value) (o' k' : List Int), Aside0 (IsX w wr w1.heap.size gr S p' false vo' o' most vk' k') ∧ Aside0 (streamS Z (8 * S.size) most f p' o' k' = R) ∧ Aside0 (p' ≤ 8 * S.size ∧ 8 * S.size < p' + f ∧ o'.length ≤ 4194304 ∧ k'.length ≤ p'))
    case atStart => exact ⟨0, _, _, [], [], HX1, HR, ⟨by omega, by omega, by simp, by simp⟩⟩
    case round =>
      clear HX1 HR
      obtain ⟨p', vo', vk', o', k', HX, HR, HP⟩ := hrel
      cases gk with
      | zero => exact absurd HP.out (by omega)
      | succ f =>
        have hR := HR.out
        rw [streamS] at hR
        have hsz := HZ.out.1
        have HBC := Aside0.mk (block_calls w1.heap.size gr S Z p' vo' vk' o' k' most w wr HX.out HZ.out HP.out.1 hm4 HP.out.2.2.1 (by have := HP.out; omega))
        unfold BPost at HBC
        obtain ⟨u, hu⟩ : ∃ u, Z / 2 ^ p' % 2 ^ 1 = u := ⟨_, rfl⟩
        obtain ⟨kd, hkd⟩ : ∃ kd, Z / 2 ^ (p' + 1) % 2 ^ 2 = kd := ⟨_, rfl⟩
        rw [hu, hkd] at HBC hR
        clear hu hkd HR
        go_wp2_with fail
        refine HBC.out.mono ?_
        rintro e w2 h2
        rcases h2 with ⟨er, b, hs, rfl, hb, hne⟩ | ⟨q, o2, vo2, vk2, n1, hs, rfl, hX2, hq, ho2⟩
        · have HB2 := Aside0.mk hb
          have H1 := Aside0.mk hne
          have HRE : Aside0 (R = .error er) := ⟨by
            rcases hs with ⟨a1, rfl⟩ | ⟨a1, a2⟩
            · rw [if_pos a1] at hR; exact hR.symm
            · rw [if_neg a1, a2] at hR; exact hR.symm⟩
          have q0 : (er == 0) = false := beq_eq_false_iff_ne.mpr hne
          have q1 : (er != 0) = true := bne_iff_ne.mpr hne
          clear hs hb hne hR HBC
          go_wp2
          go_ret2
          exact HSP.out _ _ (.inl ⟨er, _, HRE.out, rfl, HB2.out, H1.out⟩)
        · rw [if_neg n1, hs] at hR
          have hR2 : (if u = 1 then Except.ok (q, o2, k' ++ [(kd : Int)]) else streamS Z (8 * S.size) most f q o2 (k' ++ [(kd : Int)])) = R := hR
          have HQ := Aside0.mk (bodyS_q (by omega) hs)
          have HX2 := Aside0.mk hX2
          clear hs hR hX2 HBC
          by_cases hu1 : u = 1
          · rw [if_pos hu1] at hR2
            have HRO := Aside0.mk hR2
            have q2 : ((u : Int) == 1) = true := by rw [hu1]; rfl
            have q2b : (u == 1) = true := by rw [hu1]; rfl
            clear hR2 hu1
            go_wp2
            go_ret2
            exact HSP.out _ _ (.inr ⟨q, o2, k' ++ [(kd : Int)], _, gr, vo2, vk2, _, HRO.out.symm, rfl, HX2.out, hq, ho2⟩)
          · rw [if_neg hu1] at hR2
            have HRO := Aside0.mk hR2
            have q2 : ((u : Int) == 1) = false := beq_eq_false_iff_ne.mpr (by omega)
            have q2b : (u == 1) = false := beq_eq_false_iff_ne.mpr hu1
            clear hR2 hu1
            go_wp2
            go_roundg f
            case measure => exact Nat.lt_succ_self _
            case rel => exact ⟨q, vo2, vk2, o2, k' ++ [(kd : Int)], HX2, HRO, ⟨hq, by have := HQ.out; have := HP.out; omega, ho2, by have := HQ.out; have := HP.out; simp; omega⟩⟩
  · have d0 : decide (4194304 < most) = true := decide_eq_true (by omega)
    obtain rfl : 4194304 = mm := by
      rw [← HMM.out]; unfold mostS
      rw [if_pos (by omega)]
    go_wp2_with fail
    refine (bits_NewReader.calls S S 0 false w w (Below.refl _ _) rfl).mono ?_
    rintro e w1 ⟨gr, rfl, hI, hB, _⟩
    have HI1 := Aside0.mk hI
    have HB1 := Aside0.mk hB
    clear hI hB
    have HX1 := Aside0.mk (show IsX w (w1.alloc (.cells #[.pointer (some ⟨gr, 0, none⟩), .slice none 0 0, .int .i64 4194304, .slice none 0 0] 98)) w1.heap.size gr S 0 false (.slice none 0 0) [] 4194304 (.slice none 0 0) [] from ⟨heap_alloc_new w1 _, below_size HB1.out, HI1.out.alloc _, Kd.own_of_R (enc := Value.int .u8) (h1 := fun _ => rfl) (Kd.R_nil (Kd.int .u8) 5 _ _ (fun _ => True)), Kd.own_of_R (enc := Value.int .i64) (h1 := fun _ => rfl) (Kd.R_nil (Kd.int .i64) 3 _ _ (fun _ => True)), below_alloc HB1.out _⟩)
    obtain ⟨R, hR⟩ : ∃ R, streamS Z (8 * S.size) 4194304 (8 * S.size + 1) 0 [] [] = R := ⟨_, rfl⟩
    have HR := Aside0.mk hR
    have HSP := Aside0.mk (show ∀ e w', SPost w S R e w' → SPost w S (streamS Z (8 * S.size) 4194304 (8 * S.size + 1) 0 [] []) e w' from fun e w' h => by rw [hR]; exact h)
    clear hR
    go_wp2_with fail
    go_loopg [] (8 * S.size + 1) (fun f wr => ∃ (p' : Nat) (vo' vk' : Value) (o' k' : List Int), Aside0 (IsX w wr w1.heap.size gr S p' false vo' o' 4194304 vk' k') ∧ Aside0 (streamS Z (8 * S.size) 4194304 f p' o' k' = R) ∧ Aside0 (p' ≤ 8 * S.size ∧ 8 * S.size < p' + f ∧ o'.length ≤ 4194304 ∧ k'.length ≤ p'))
    case atStart => exact ⟨0, _, _, [], [], HX1, HR, ⟨by omega, by omega, by simp, by simp⟩⟩
    case round =>
      clear HX1 HR
      obtain ⟨p', vo', vk', o', k', HX, HR, HP⟩ := hrel
      cases gk with
      | zero => exact absurd HP.out (by omega)
      | succ f =>
        have hR := HR.out
        rw [streamS] at hR
        have hsz := HZ.out.1
        have HBC := Aside0.mk (block_calls w1.heap.size gr S Z p' vo' vk' o' k' 4194304 w wr HX.out HZ.out HP.out.1 hm4 HP.out.2.2.1 (by have := HP.out; omega))
        unfold BPost at HBC
        obtain ⟨u, hu⟩ : ∃ u, Z / 2 ^ p' % 2 ^ 1 = u := ⟨_, rfl⟩
        obtain ⟨kd, hkd⟩ : ∃ kd, Z / 2 ^ (p' + 1) % 2 ^ 2 = kd := ⟨_, rfl⟩
        rw [hu, hkd] at HBC hR
        clear hu hkd HR
        go_wp2_with fail
        refine HBC.out.mono ?_
        rintro e w2 h2
        rcases h2 with ⟨er, b, hs, rfl, hb, hne⟩ | ⟨q, o2, vo2, vk2, n1, hs, rfl, hX2, hq, ho2⟩
        · have HB2 := Aside0.mk hb
          have H1 := Aside0.mk hne
          have HRE : Aside0 (R = .error er) := ⟨by
            rcases hs with ⟨a1, rfl⟩ | ⟨a1, a2⟩
            · rw [if_pos a1] at hR; exact hR.symm
            · rw [if_neg a1, a2] at hR; exact hR.symm⟩
          have q0 : (er == 0) = false := beq_eq_false_iff_ne.mpr hne
          have q1 : (er != 0) = true := bne_iff_ne.mpr hne
          clear hs hb hne hR HBC
          go_wp2
          go_ret2
          exact HSP.out _ _ (.inl ⟨er, _, HRE.out, rfl, HB2.out, H1.out⟩)
        · rw [if_neg n1, hs] at hR
          have hR2 : (if u = 1 then Except.ok (q, o2, k' ++ [(kd : Int)]) else streamS Z (8 * S.size) 4194304 f q o2 (k' ++ [(kd : Int)])) = R := hR
          have HQ := Aside0.mk (bodyS_q (by omega) hs)
          have HX2 := Aside0.mk hX2
          clear hs hR hX2 HBC
          by_cases hu1 : u = 1
          · rw [if_pos hu1] at hR2
            have HRO := Aside0.mk hR2
            have q2 : ((u : Int) == 1) = true := by rw [hu1]; rfl
            have q2b : (u == 1) = true := by rw [hu1]; rfl
            clear hR2 hu1
            go_wp2
            go_ret2
            exact HSP.out _ _ (.inr ⟨q, o2, k' ++ [(kd : Int)], _, gr, vo2, vk2, _, HRO.out.symm, rfl, HX2.out, hq, ho2⟩)
          · rw [if_neg hu1] at hR2
            have HRO := Aside0.mk hR2
            have q2 : ((u : Int) == 1) = false := beq_eq_false_iff_ne.mpr (by omega)
            have q2b : (u == 1) = false := beq_eq_false_iff_ne.mpr hu1
            clear hR2 hu1
            go_wp2
            go_roundg f
            case measure => exact Nat.lt_succ_self _
            case rel => exact ⟨q, vo2, vk2, o2, k' ++ [(kd : Int)], HX2, HRO, ⟨hq, by have := HQ.out; have := HP.out; omega, ho2, by have := HQ.out; have := HP.out; simp; omega⟩⟩



open XInflateAny XTok
def strS (R : Except Int (Nat × List Int × List Int)) : ByteArray × Int × Int := match R with
  | .error er => (⟨#[]⟩, 0, er)
  | .ok (q, o, _) => (strOfNums o, (((q + 7) / 8 : Nat) : Int), 0)
noncomputable def decS (S : ByteArray) (Z : Nat) (most : Int) : Except Int (Nat × List Int × List Int) := streamS Z (8 * S.size) (mostS most) (8 * S.size + 1) 0 [] []
set_option maxHeartbeats 4000000 in
set_option maxRecDepth 100000 in
theorem stream_calls (S : ByteArray) (Z : Nat) (most : Int) (w : World) (hZ : IsZ S Z) :
    Calls Try.prog 23 #[.string S, .int .i64 most] w fun e w' => e = .returned (.tuple #[.string (strS (decS S Z most)).1, .int .i64 (strS (decS S Z most)).2.1, .int .i64 (strS (decS S Z most)).2.2]) ∧ Below w.heap.size w w' := by
  have hr := readX_calls S Z most w hZ
  obtain ⟨R, hR⟩ : ∃ R, decS S Z most = R := ⟨_, rfl⟩
  rw [hR]
  rw [show streamS Z (8 * S.size) (mostS most) (8 * S.size + 1) 0 [] [] = R from hR] at hr
  have HR := Aside0.mk hr
  have hsz := hZ.1
  clear hr hR hZ
  go_enter Try.func23, Try.ntmps23
  go_wp2_with fail
  refine HR.out.mono ?_
  rintro e w1 h1
  rcases h1 with ⟨er, g, rfl, rfl, hb, hne⟩ | ⟨q, o2, k2, g, gr, vo, vk, mm, rfl, rfl, hX, hq, ho⟩
  · have HB := Aside0.mk hb
    have q0 : (er == 0) = false := beq_eq_false_iff_ne.mpr hne
    have q1 : (er != 0) = true := bne_iff_ne.mpr hne
    clear hb hne HR
    go_wp2
    go_ret3
    exact ⟨rfl, HB.out⟩
  · have HX := Aside0.mk hX
    have hc0 : w1.cell? ⟨g, 0, none⟩ = some (.pointer (some ⟨gr, 0, none⟩)) := (blk_cell hX.1 0).trans rfl
    have hc1 : w1.cell? ⟨g, 1, none⟩ = some vo := (blk_cell hX.1 1).trans rfl
    have hcv := own_string (P := Try.prog) Try.underlying52 Try.underlying5 Try.underlying9 hX.2.2.2.1
    have hcvd : (convert 52 9 vo).run Try.prog w1.drew = .ok (.string (strOfNums o2)) w1.drew := own_string (P := Try.prog) Try.underlying52 Try.underlying5 Try.underlying9 (show w1.drew.ownsRow w.heap.size 5 1 vo o2.length (nums .u8 o2) from hX.2.2.2.1)
    obtain ⟨y, hy⟩ : ∃ y : Int, (((q + 7) / 8 : Nat) : Int) = y := ⟨_, rfl⟩
    have w7 : IntKind.i64.wrap ((q : Int) + 7) = (q : Int) + 7 := by rw [i64_w]; unfold wrap64; omega
    have t8 : Int.tdiv ((q : Int) + 7) 8 = y := by rw [Int.tdiv_eq_ediv_of_nonneg (by omega), ← hy]; omega
    have w8 : IntKind.i64.wrap y = y := by rw [i64_w]; unfold wrap64; omega
    have HY := Aside0.mk hy
    clear hX HR hy
    go_wp2
    go_region_law
      ((go_simp; go_at_call 58; refine (bits_Reader_At.calls gr S (q : Int) false (q : Int) S (q : Int) false w _ (by first | exact HX.out.2.2.1 | exact HX.out.2.2.1.drew) (by first | exact HX.out.2.2.2.2.2 | exact below_drew1 HX.out.2.2.2.2.2) rfl).mono ?_; rintro e w2 ⟨rfl, hI, hB, hk⟩; have HX2 := Aside0.mk (IsX.reader (by first | exact HX.out | exact HX.out.below (show Below w1.heap.size w1 w1.drew from below_drew1 (Below.refl _ _))) hI hB hk); have hc12 : w2.cell? ⟨g, 1, none⟩ = some vo := (blk_cell HX2.out.1 1).trans rfl; have hcv2 := own_string (P := Try.prog) Try.underlying52 Try.underlying5 Try.underlying9 HX2.out.2.2.2.1; have hcv2d : (convert 52 9 vo).run Try.prog w2.drew = .ok (.string (strOfNums o2)) w2.drew := own_string (P := Try.prog) Try.underlying52 Try.underlying5 Try.underlying9 (show w2.drew.ownsRow w.heap.size 5 1 vo o2.length (nums .u8 o2) from HX2.out.2.2.2.1); clear hI hB hk))
    all_goals
      go_wp2
      go_ret3
      exact ⟨by rw [← HY.out]; rfl, by first | exact HX2.out.2.2.2.2.2 | exact below_drew1 HX2.out.2.2.2.2.2⟩



open XInflateAny XTok
def allS (n : Nat) (T : ByteArray × Int × Int) : ByteArray × Int := if T.2.2 ≠ 0 then (⟨#[]⟩, T.2.2) else if T.2.1 < n then (⟨#[]⟩, 2) else (T.1, 0)
set_option maxHeartbeats 1600000 in
set_option maxRecDepth 100000 in
theorem all_calls (S : ByteArray) (Z : Nat) (most : Int) (w : World) (hZ : IsZ S Z) :
    Calls Try.prog 25 #[.string S, .int .i64 most] w fun e w' => e = .returned (.tuple #[.string (allS S.size (strS (decS S Z most))).1, .int .i64 (allS S.size (strS (decS S Z most))).2]) ∧ Below w.heap.size w w' := by
  have hs := stream_calls S Z most w hZ
  obtain ⟨T, hT⟩ : ∃ T, strS (decS S Z most) = T := ⟨_, rfl⟩
  rw [hT] at hs ⊢
  obtain ⟨t, n, er⟩ := T
  have HS := Aside0.mk hs
  unfold allS
  clear hs hT hZ
  by_cases h1 : er ≠ 0
  · have q0 : (er == 0) = false := beq_eq_false_iff_ne.mpr h1
    have q1 : (er != 0) = true := bne_iff_ne.mpr h1
    rw [if_pos h1]
    clear h1
    go_enter Try.func25, Try.ntmps25
    go_wp2_with fail
    refine HS.out.mono ?_
    rintro e w1 ⟨rfl, hb⟩
    have HB := Aside0.mk hb
    clear hb HS
    go_wp2
    go_ret2
    exact ⟨rfl, HB.out⟩
  rw [if_neg h1]
  obtain rfl : er = 0 := by omega
  by_cases h2 : n < (S.size : Int)
  · have d2 : decide (n < (S.size : Int)) = true := decide_eq_true h2
    rw [if_pos h2]
    clear h1 h2
    go_enter Try.func25, Try.ntmps25
    go_wp2_with fail
    refine HS.out.mono ?_
    rintro e w1 ⟨rfl, hb⟩
    have HB := Aside0.mk hb
    clear hb HS
    go_wp2
    go_ret2
    exact ⟨rfl, HB.out⟩
  · have d2 : decide (n < (S.size : Int)) = false := decide_eq_false h2
    rw [if_neg h2]
    clear h1 h2
    go_enter Try.func25, Try.ntmps25
    go_wp2_with fail
    refine HS.out.mono ?_
    rintro e w1 ⟨rfl, hb⟩
    have HB := Aside0.mk hb
    clear hb HS
    go_wp2
    go_ret2
    exact ⟨rfl, HB.out⟩
/-- The kinds of a stream's blocks. -/
def kindS (R : Except Int (Nat × List Int × List Int)) : List Int × Int := match R with
  | .error er => ([], er)
  | .ok (_, _, k) => (k, 0)
set_option maxHeartbeats 1600000 in
set_option maxRecDepth 100000 in
theorem blocks_calls (S : ByteArray) (Z : Nat) (most : Int) (w : World) (hZ : IsZ S Z) :
    Calls Try.prog 27 #[.string S, .int .i64 most] w fun e w' => ∃ v, e = .returned (.tuple #[v, .int .i64 (kindS (decS S Z most)).2]) ∧ Kd.R (Kd.int .i64) 3 w' w.heap.size (fun _ => True) v (kindS (decS S Z most)).1 ∧ Below w.heap.size w w' := by
  have hr := readX_calls S Z most w hZ
  obtain ⟨R, hR⟩ : ∃ R, decS S Z most = R := ⟨_, rfl⟩
  rw [hR]
  rw [show streamS Z (8 * S.size) (mostS most) (8 * S.size + 1) 0 [] [] = R from hR] at hr
  have HR := Aside0.mk hr
  clear hr hR hZ
  go_enter Try.func27, Try.ntmps27
  go_wp2_with fail
  refine HR.out.mono ?_
  rintro e w1 h1
  rcases h1 with ⟨er, g, rfl, rfl, hb, hne⟩ | ⟨q, o2, k2, g, gr, vo, vk, mm, rfl, rfl, hX, hq, ho⟩
  · have HB := Aside0.mk hb
    have q0 : (er == 0) = false := beq_eq_false_iff_ne.mpr hne
    have q1 : (er != 0) = true := bne_iff_ne.mpr hne
    clear hb hne HR
    go_wp2
    go_ret2
    exact ⟨_, rfl, Kd.R_nil _ _ _ _ _, HB.out⟩
  · have HX := Aside0.mk hX
    have hc3 : w1.cell? ⟨g, 3, none⟩ = some vk := (blk_cell hX.1 3).trans rfl
    clear hX HR
    go_wp2
    go_ret2
    exact ⟨_, rfl, Kd.R_of_own (enc := Value.int .i64) (h1 := fun _ => rfl) HX.out.2.2.2.2.1 (fun _ _ => trivial), HX.out.2.2.2.2.2⟩


end Go.Proofs.Ytmanmjjjepdhlaa.XPrefix
