/- This text proves the statement over numbers and lists that the functions of the law ArmorBack come to. It has no conditions. -/
import Derived.Test.YtdaofffedfccmaaDoorXArmorSignsx8
import Derived.Test.YtdaofffedfccmaaDoorYArm12
import Derived.Test.YtdaofffedfccmaaDoorYArm8
namespace Go.Proofs.YtdaofffedfccmaaDoor.Pure
open Go.RowKit Go.Proofs.YtdaofffedfccmaaDoor.XArmorSigns Go.Proofs.YtdaofffedfccmaaDoorW.PrintWords Go.Proofs.YtdaofffedfccmaaDoorW.PrintLast Go.Proofs.YtdaofffedfccmaaDoorW.PrintMore
set_option linter.unusedVariables false
set_option linter.unusedSimpArgs false

open ArmP XGlob
theorem back_yes (s nm : ByteArray) (w : Int) (hs : s.size ≤ 300) (hn : nm.size ≤ 40) : Ev (fun k => montagelaw42_ArmorBack.j0 k s nm w false) true := by
  rcases encode_both s nm w hs hn with ⟨W, n, rfl, hW, hW2, hW4, hok, hsum, h1, K1, g1⟩ | ⟨h1, K1, g1⟩
  · obtain ⟨K2, g2⟩ := decode_ev s nm W n hs hW hW2 hW4 hok hsum
    refine ⟨K1 + K2 + 2, fun q hq => ?_⟩
    obtain ⟨k, rfl⟩ : ∃ k, q = k + 2 := ⟨q - 2, by omega⟩
    have a1 := g1 (k + 1) (by omega)
    have a2 := g2 k (by omega)
    simp only [] at a1 a2
    show montagelaw42_ArmorBack.j0 (k + 1 + 1) s nm (W : Int) false = _
    rw [montagelaw42_ArmorBack.j0, if_neg (by decide), h1, Option.bind_some, a1, Option.bind_some, if_pos rfl]
    show montagelaw42_ArmorBack.j1 (k + 1) s nm (encA nm (mk (61 :: signsL (bytes3 n))) (mk (signsL s.data.toList)) W) 0 false = _
    rw [montagelaw42_ArmorBack.j1, if_neg (by decide), if_pos rfl, a2, Option.bind_some, if_pos rfl, if_pos rfl]
    rfl
  · refine ⟨K1 + 2, fun q hq => ?_⟩
    obtain ⟨k, rfl⟩ : ∃ k, q = k + 2 := ⟨q - 2, by omega⟩
    have a1 := g1 (k + 1) (by omega)
    simp only [] at a1
    show montagelaw42_ArmorBack.j0 (k + 1 + 1) s nm w false = _
    rw [montagelaw42_ArmorBack.j0, if_neg (by decide), h1, Option.bind_some, a1, Option.bind_some, if_pos rfl]
    show montagelaw42_ArmorBack.j1 (k + 1) s nm ⟨#[]⟩ 1 false = _
    rw [montagelaw42_ArmorBack.j1, if_neg (by decide), if_neg (by decide)]
theorem ArmorBack : montagelaw42_ArmorBack.Pure := by
  intro s t w _ _ _
  refine Ev.rounds (r := true) ?_
  have hbig : Ev (fun k => montagelaw42_ArmorBack.j0 k s t w true) true := by
    refine Ev.step (f := fun _ => some true) (fun k => ?_) (Ev.now _)
    rw [montagelaw42_ArmorBack.j0, if_pos rfl]
  have hgo : Ev (fun k => if (s.size : Int) > 300 then montagelaw42_ArmorBack.j0 k s t w true else montagelaw42_ArmorBack.j0 k s t w (decide ((t.size : Int) > 40))) true := by
    by_cases hs : (s.size : Int) > 300
    · exact Ev.congr (fun k => if_pos hs) hbig
    · by_cases ht : (t.size : Int) > 40
      · exact Ev.congr (fun k => by rw [if_neg hs, decide_eq_true ht]) hbig
      · exact Ev.congr (fun k => by rw [if_neg hs, decide_eq_false ht]) (back_yes s t w (by omega) (by omega))
  obtain ⟨K0, g0⟩ := awake_ev
  obtain ⟨K1, g1⟩ := hgo
  refine ⟨K0 + K1, fun n hn => ?_⟩
  have a0 := g0 n (by omega)
  have a1 := g1 n (by omega)
  simp only [] at a0 a1
  show montagelaw42_ArmorBack.f n s t w = _
  unfold montagelaw42_ArmorBack.f
  rw [a0, Option.bind_some, if_pos rfl, a1]

end Go.Proofs.YtdaofffedfccmaaDoor.Pure
