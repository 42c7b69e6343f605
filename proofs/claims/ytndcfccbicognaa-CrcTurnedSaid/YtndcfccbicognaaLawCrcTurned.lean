/- The row of CrcTurned: up to four bytes in a row that are other ones make another CRC. It has no conditions beyond those of the row. -/
import Derived.Test.YtndcfccbicognaaRows
import Derived.Test.YtndcfccbicognaaYCrcTurned
import Derived.Test.YtndcfccbicognaaXOpens
import Derived.Laws.IdiomArrays
import Derived.WalkKit
import Derived.ProofKit
import Derived.OpenShut
import Derived.ShutString
import Derived.ChangeOld
import Derived.Below
import Derived.SizedLaws
namespace Go.Proofs.Ytndcfccbicognaa.crcTurned
open Go.ChangeShapes Go.WideShapes Go.ChangeAt Go.RowKit Go.Proofs.Ytndcfccbicognaa.XCrcOf
open Go.ChangeMaps (open_string shut_string)
theorem okWide_array {P : Program} {w : World} {r : Reach} {base : Nat} {t e : TypeId} {v : Value} {n : Nat} (ht : P.underlying t = some (.array n e)) (h : Value.okWide P w r base t v) : ∃ cs, v = .agg cs ∧ cs.size = P.cellsOf t := by
  simp only [Value.okWide, ht] at h
  obtain ⟨cs, h1, h2, _⟩ := h
  exact ⟨cs, h1, h2⟩
theorem four_of {cs : Array Value} (h : cs.size = 4) : ∃ b0 b1 b2 b3, cs = #[b0, b1, b2, b3] := by
  obtain ⟨l⟩ := cs
  match l, h with
  | [x0, x1, x2, x3], _ => exact ⟨x0, x1, x2, x3, rfl⟩
theorem byte_of {H : Type} {enc : TypeId × Value → H} {W : World} {v : Value} {n : Nat} {y : DataW H × List MemPlace} (h : DataW.trod enc Try.prog W 0 (fun _ => true) true n 5 [v] = some y) : ∃ u : Int, v = .int .u8 u ∧ (Lit.int .u8 u).wf = true := by
  obtain ⟨a, hk, hg⟩ := Opens.opens_int (k := .u8) Try.underlying5 _ _ _ _ _ _ h
  have e : [v] = [Value.int .u8 a] := hk
  injection e with e
  exact ⟨a, e, hg⟩
theorem own : ownKnob Try.prog.godebug = none := by kernel_rfl
theorem laidOut : laidOutB Try.prog = true := by kernel_rfl
set_option maxHeartbeats 1000000 in
set_option maxRecDepth 100000 in
theorem lifted (os : Os) (started : os.Started) (H : Type) (enc : TypeId × Value → H) :
    ReturnsInHanded {} Try.checked os 9 .any (Rows.crcTurnedSpec.pre6 enc Try.prog Try.f9 Rows.crcTurnedRow.domain false) (Rows.crcTurnedSpec.post enc Try.prog Try.f9 false true false false) := by
  refine returnsInHanded_of_change_sized (C := Try.checked) own started (by kernel_rfl) Try.func9
    (ChangeSpec.witness6 (enc := enc) (C := Try.checked) false ⟨#[], #[.string ByteArray.empty, .int .i64 0, .agg #[.int .u8 0, .int .u8 0, .int .u8 0, .int .u8 0]], []⟩ 8 (by kernel_rfl) (by kernel_rfl) (by kernel_rfl) (by kernel_rfl)) ?_
  intro W base args ds gs before hval0 hW hcnd hsz0 _
  have hsz : (DataW.weightsEach Try.prog (Try.f9.params.toList ++ Rows.crcTurnedSpec.plain.varTypes Try.prog) (ds ++ gs)).all (· ≤ reachBytes) = true := hsz0
  have hval : ∀ (j : Nat) t v, Try.f9.params[j]? = some t → args[j]? = some v → Value.okWide Try.prog W .any base t v := hval0
  have hW' := hW
  obtain ⟨p, q, hA0, hV, rfl, hfz, hnd⟩ := hW
  have hA : DataW.TrodAll enc Try.prog W 0 (fun _ => true) true Try.f9.params.toList args.toList ds p := hA0
  rw [Try.params9] at hA hval hsz
  obtain ⟨v0, vs0, d0, ds0, p0, q0, hargs, rfl, rfl, h0, r0⟩ := trodAll_cons hA
  obtain ⟨v1, vs1, d1, ds1, p1, q1, rfl, rfl, rfl, h1, r1⟩ := trodAll_cons r0
  obtain ⟨v2, vs2, d2, ds2, p2, q2, rfl, rfl, rfl, h2, r2⟩ := trodAll_cons r1
  obtain ⟨rfl, rfl, rfl⟩ := trodAll_nil r2
  obtain rfl : args = #[v0, v1, v2] := by cases args; simp_all
  obtain ⟨rfl, rfl⟩ := trodVars_none hV
  obtain ⟨a0, rfl, rfl, rfl, y0⟩ := open_string Try.underlying9 (hval 0 9 v0 rfl rfl) h0
  have w0 : a0.size ≤ 140737488351232 := by
    have z := sized_string hsz (j := 0) (t := 9) rfl rfl
    rw [Array.length_toList] at z
    exact z
  obtain ⟨a1, rfl, rfl, rfl, w1⟩ := open_int Try.underlying3 (hval 1 3 v1 rfl rfl) h1
  obtain ⟨cs2, rfl, hcs2⟩ := okWide_array Try.underlying61 (hval 2 61 v2 rfl rfl)
  have k2 := h2
  have lt2 : ∀ x ∈ p2, x.block < W.heap.size := by obtain ⟨m, hm⟩ := k2; exact DataW.trod_lt m _ _ _ hm
  have hc4 : cs2.size = 4 := hcs2.trans (by kernel_rfl)
  obtain ⟨b0, b1, b2, b3, rfl⟩ := four_of hc4
  obtain ⟨fu2, hf2⟩ := h2
  obtain ⟨y0', y1', y2', y3', n2, _, e0, e1, e2, e3⟩ := trod_array4 Try.underlying61 (by kernel_rfl) hf2
  obtain ⟨u0, g0⟩ := byte_of e0
  obtain ⟨u1, g1⟩ := byte_of e1
  obtain ⟨u2, g2⟩ := byte_of e2
  obtain ⟨u3, g3⟩ := byte_of e3
  obtain ⟨rfl, g0⟩ := g0
  obtain ⟨rfl, g1⟩ := g1
  obtain ⟨rfl, g2⟩ := g2
  obtain ⟨rfl, g3⟩ := g3
  clear hA0 hval0 hsz0 hsz
  refine (Go.Proofs.Ytndcfccbicognaa.XCrcOf.crcTurned_walk a0 a1 u0 u1 u2 u3 W w0 g0 g1 g2 g3).mono fun e W' ⟨he, bel⟩ => ?_
  subst he
  exact ⟨_, rfl, _, _, _, [], _, [], hW', trodAll_mk1 (shut_bool Try.underlying4 _), (trodAll_cons_mk (shut_string Try.underlying9 y0) (trodAll_cons_mk (shut_int Try.underlying3 w1) (trodAll_cons_mk (Below.trod laidOut (by kernel_rfl) (of_decide_eq_true (by kernel_rfl)) k2 bel lt2) trodAll_mk0))), rfl, bel.frame _, fun h => by cases h⟩
theorem over : Rows.crcTurnedRow.holds Try.pinned (OpenSpec.ofChange Rows.crcTurnedSpec) :=
  OpenClaim.holds_of_wide 9 Try.f9 rfl rfl rfl rfl rfl rfl rfl ⟨rfl, rfl, rfl, rfl, rfl⟩ rfl rfl rfl rfl rfl (by kernel_rfl) Try.func9 (by kernel_rfl)
    (of_decide_eq_true (by kernel_rfl)) (by unfold Func.isWrapper; first | (rw [if_pos (by decide +kernel)]; kernel_rfl) | (rw [if_neg (by decide +kernel)]; exact ⟨rfl, rfl⟩))
    (fun os started H enc _ => lifted os started H enc)
theorem proved : Rows.CrcTurnedSaid := over
#print axioms proved
end Go.Proofs.Ytndcfccbicognaa.crcTurned
namespace Go.Proofs.Ytndcfccbicognaa
/-- The row, under a short name, for the claim. -/
theorem crcTurned_holds : Rows.CrcTurnedSaid := crcTurned.proved
end Go.Proofs.Ytndcfccbicognaa
