/- The law's first lines (awake): what they come to. It has no conditions. -/
import Derived.Test.YtiemjhoadobigaaYPrefixBit
import Derived.Test.YtiemjhoadobigaaYPrefixWrite
import Derived.Test.YtiemjhoadobigaaYPrefixPure
import Derived.BigRegion
import Derived.RegionTactic
import Derived.ChangeAlike
import Derived.Deep.RegionWith
import Derived.Deep.RegionLaw
import Derived.Laws.Tables
import Derived.Deep.QuietTactic
import Derived.BigQuiet
import Derived.Deep.RegionHeld3
import Derived.Deep.AppendLies
import Derived.Deep.DrawnRows
import Derived.Laws.CopyOwn
import Derived.Deep.MidRow
import Derived.Laws.ResultCell
import Derived.ChangeKeysEq
namespace Go.Proofs.Ytiemjhoadobigaa.XPrefix
set_option linter.unusedVariables false
set_option linter.unusedSimpArgs false
open Go.RowKit Go.Proofs.YtiemjhoadobigaaW.PrintWords Go.Proofs.YtiemjhoadobigaaW.PrintLast Go.Proofs.YtiemjhoadobigaaW.PrintMore

open XPrefixReads
theorem lit_C (w : World) (xs : List Int) (hm : xs.length ≤ 9223372036854775807) : Kd.C (Kd.int .i64) (w.alloc (.cells (encs (Value.int .i64) xs).toArray 3)) (some ⟨w.heap.size, 0, none⟩) xs.length xs := by
  have h := World.ownsRow_lit (base := 0) (e := 3) (size := 1) w (encs (Value.int .i64) xs).toArray xs.length (Nat.zero_le _) hm (by simp [encs])
  rw [List.toList_toArray] at h
  have hr : Kd.R (Kd.int .i64) 3 (w.alloc (.cells (encs (Value.int .i64) xs).toArray 3)) 0 (fun _ => True) (.slice (some ⟨w.heap.size, 0, none⟩) xs.length xs.length) xs := Kd.R_of_own h (fun _ _ => trivial)
  exact (Kd.R_reads' hr).2.2
theorem ok2133 : OkL [2, 1, 3, 3] := ⟨by decide, fun i hi => by
  have : i = 0 ∨ i = 1 ∨ i = 2 ∨ i = 3 := by simp at hi; omega
  rcases this with rfl | rfl | rfl | rfl <;> decide⟩
theorem doc2133 : docK [2, 1, 3, 3] = (0, 0) := by decide +kernel
theorem ok1 : OkL [1] := ⟨by decide, fun i hi => by
  have : i = 0 := by simp at hi; omega
  subst this; decide⟩
theorem doc1 : docK [1] = (1, 0) := by decide +kernel
theorem bits2 : atV [2, 1, 3, 3] 2 = 3 := by decide +kernel
theorem len2 : atN [2, 1, 3, 3] 2 = 3 := by decide +kernel
theorem len0 : atN [2, 1, 3, 3] 0 = 2 := by decide +kernel
theorem read2 : readK [2, 1, 3, 3] 0 (bitZ 3) 8 15 0 0 0 = (2, 0, 3, false) := by decide +kernel
theorem Z3 : ∀ i, i < (⟨#[3]⟩ : ByteArray).size → bt ⟨#[3]⟩ (i : Int) = ((3 / 256 ^ i % 256 : Nat) : Int) := fun i hi => by
  have : i = 0 := by have : (⟨#[3]⟩ : ByteArray).size = 1 := rfl; omega
  subst this; decide +kernel

theorem IsT.keepW {base : Nat} {W W1 : World} {g gr : Nat} {l : List Int} {k : Int} {cs : Array Value} (h : IsT base W g l k) (hr : W.heap[gr]? = some (.cells cs 66 (0, 0))) (hk : KeepBut W W1 gr none) : IsT base W1 g l k := by
  obtain ⟨gc, A, cc, h1, h2, h3, h4, h5⟩ := h
  exact ⟨gc, A, cc, hk.blk h1 (blk_ne h1 hr (by decide)) (by simp), hk.blk h2 (blk_ne h2 hr (by decide)) (by simp), Kd.R_mono (Kd.R_keep (Kd.R_far1 h3 rfl (Kd.R_ne h3 hr (by decide))) hk (fun k hk => hk.2)) (fun _ _ => trivial), h4, h5⟩

set_option maxHeartbeats 1600000 in
set_option maxRecDepth 100000 in
theorem awake_calls (w : World) : Calls Try.prog 6 #[] w fun e w' => e = .returned (.bool true) ∧ Below w.heap.size w w' := by
  go_enter Try.func6, Try.ntmps6
  go_wp2_with fail
  refine (new_calls (some ⟨w.heap.size, 0, none⟩) 4 [2, 1, 3, 3] _ (lit_C w [2, 1, 3, 3] (by decide))).mono ?_
  rintro e w1 ⟨k, er, hK, hb, h⟩
  have hd := doc_of _ _ _ hK ok2133
  rw [doc2133] at hd
  obtain ⟨rfl, rfl⟩ : k = 0 ∧ er = 0 := by injection hd with h1 h2; exact ⟨h1.symm, h2.symm⟩
  rcases h with ⟨h, _⟩ | ⟨_, g, rfl, hT⟩
  · exact absurd rfl h
  have T1 := Aside0.mk hT
  have B1 := Aside0.mk (below_step (below_alloc (Below.refl w.heap.size w) _) hb)
  clear hT hb hK hd
  go_wp2_with fail
  refine (new_walk w w1 B1.out).mono ?_
  rintro e w2 ⟨gw, rfl, hI, _, hb⟩
  have I2 := Aside0.mk hI
  have T2 := Aside0.mk (T1.out.below hb)
  have B2 := Aside0.mk (below_step B1.out hb)
  clear hI hb T1 B1
  go_wp2_with fail
  refine (write_some _ g gw [2, 1, 3, 3] 0 2 3 3 (.slice none 0 0) [] 0 0 3 w w2 T2.out I2.out B2.out bits2 len2 (by omega) (by omega) (by omega) (by omega) (by decide +kernel) (by omega) (by omega) (by omega) (by omega) (by decide)).mono ?_
  rintro e w3 ⟨rfl, W2, hb, hP⟩
  obtain ⟨v3, hI, hb3, hk, _⟩ := hP
  have T3 := Aside0.mk ((T2.out.below hb).keepW (blk_below I2.out.1 hb) hk)
  have I3 := Aside0.mk (show IsW w w3 gw v3 [] 3 3 from hI)
  have B3 := Aside0.mk hb3
  clear hI hb3 hb hk T2 B2 I2
  go_wp2_with fail
  refine (show Calls Try.prog 14 #[.pointer (some ⟨gw, 0, none⟩)] w3 fun e w' => e = .returned (.string ⟨#[3]⟩) ∧ Below w3.heap.size w3 w' from text_walk gw v3 [] 3 3 w w3 I3.out (by omega) (by omega) (by omega) (by omega) (by decide)).mono ?_
  rintro e w4 ⟨rfl, hb⟩
  have T4 := Aside0.mk (T3.out.below hb)
  have I4 := Aside0.mk (I3.out.below hb)
  have B4 := Aside0.mk (below_step B3.out hb)
  clear hb T3 I3 B3
  go_wp2_with fail
  refine (bits_NewReader.calls ⟨#[3]⟩ ⟨#[3]⟩ 0 false w w4 B4.out rfl).mono ?_
  rintro e w5 ⟨g2, rfl, hR, hb, hb2⟩
  have R5 := Aside0.mk hR
  have B5 := Aside0.mk hb
  have I5 := Aside0.mk (I4.out.below hb2)
  have T5 := Aside0.mk (T4.out.below hb2)
  clear hR hb hb2 I4 B4 T4
  go_wp2_with fail
  refine (read_any _ g g2 [2, 1, 3, 3] 0 0 3 ⟨#[3]⟩ w w5 T5.out R5.out B5.out (by decide) (by decide) (by decide) (by decide) Z3).mono ?_
  rintro e w6 ⟨he, hR, hb, hk⟩
  rw [show readK [2, 1, 3, 3] 0 (bitZ 3) (8 * (⟨#[3]⟩ : ByteArray).size) 15 0 0 0 = (2, 0, 3, false) from read2] at he hR
  obtain rfl := he
  have T6 := Aside0.mk (T5.out.keep R5.out.1 hk)
  have I6 := Aside0.mk (I5.out.keep hk R5.out.1 (by decide) (by decide))
  have B6 := Aside0.mk hb
  clear hR hb hk T5 I5 B5 R5
  go_wp2_with fail
  refine (check_calls (some ⟨w6.heap.size, 0, none⟩) 1 [1] _ (lit_C w6 [1] (by decide))).mono ?_
  rintro e w7 ⟨k, er, rfl, hK, hb⟩
  have hd := doc_of _ _ _ hK ok1
  rw [doc1] at hd
  obtain ⟨rfl, rfl⟩ : k = 1 ∧ er = 0 := by injection hd with h1 h2; exact ⟨h1.symm, h2.symm⟩
  have hba := below_step (below_alloc (Below.refl w6.heap.size w6) (.cells (encs (Value.int .i64) [1]).toArray 3)) hb
  have T7 := Aside0.mk (T6.out.below hba)
  have I7 := Aside0.mk (I6.out.below hba)
  have B7 := Aside0.mk (below_step B6.out hba)
  clear hK hd hb hba T6 I6 B6
  go_wp2_with fail
  refine (show Calls Try.prog 14 #[.pointer (some ⟨gw, 0, none⟩)] w7 fun e w' => e = .returned (.string ⟨#[3]⟩) ∧ Below w7.heap.size w7 w' from text_walk gw v3 [] 3 3 w w7 I7.out (by omega) (by omega) (by omega) (by omega) (by decide)).mono ?_
  rintro e w8 ⟨rfl, hb⟩
  have T8 := Aside0.mk (T7.out.below hb)
  have B8 := Aside0.mk (below_step B7.out hb)
  clear hb T7 I7 B7
  go_wp2_with fail
  refine (bits_calls _ g [2, 1, 3, 3] 0 0 w8 T8.out).mono ?_
  rintro e w9 ⟨rfl, hb⟩
  rw [len0]
  have B9 := Aside0.mk (below_step B8.out hb)
  clear hb T8 B8
  go_wp2
  go_ret
  exact ⟨rfl, B9.out⟩

end Go.Proofs.Ytiemjhoadobigaa.XPrefix
