/- This text proves the statement over numbers and lists that the functions of the law ArmorSigns come to. It has no conditions. -/
import Derived.Test.YtdaofffedfccmaaDoorXArmorSignsx6
import Derived.Test.YtdaofffedfccmaaDoorYArm7
import Derived.Test.YtdaofffedfccmaaDoorYArm8
namespace Go.Proofs.YtdaofffedfccmaaDoor.Pure
open Go.RowKit Go.Proofs.YtdaofffedfccmaaDoor.XArmorSigns Go.Proofs.YtdaofffedfccmaaDoorW.PrintWords Go.Proofs.YtdaofffedfccmaaDoorW.PrintLast Go.Proofs.YtdaofffedfccmaaDoorW.PrintMore
set_option linter.unusedVariables false
set_option linter.unusedSimpArgs false

open ArmP XGlob
theorem signs_yes (s t : ByteArray) (hs : s.size ≤ 200) (ht : t.size ≤ 200) : Ev (fun k => montagelaw42_ArmorSigns.j0 k s t false) true := by
  have hsl : s.data.toList.length = s.size := by rw [Array.length_toList]; rfl
  have hlen := signsL_len _ s.data.toList (Nat.le_refl _)
  obtain ⟨x, hx⟩ : ∃ x : ByteArray, x = ⟨(signsL s.data.toList).toArray⟩ := ⟨_, rfl⟩
  have hxs : x.size ≤ 1000000 := by
    rw [hx]
    show (signsL s.data.toList).toArray.size ≤ _
    rw [List.size_toArray]
    omega
  have hxl : x.data.toList = signsL s.data.toList := by rw [hx]
  obtain ⟨r1, h1, K1, g1⟩ := bytes_ev x hxs
  obtain ⟨r2, h2, K2, g2⟩ := bytes_ev t (by omega)
  obtain ⟨r3, h3, K3, g3⟩ := ref_bytes t (by omega)
  obtain ⟨K4, g4⟩ := signs_ev s (by omega)
  obtain rfl := isB_same _ _ _ _ h2 h3
  have e1 := h1.1 s.data.toList hxl.symm
  rw [show (⟨#[]⟩ : ByteArray).data.toList ++ s.data.toList = s.data.toList from rfl, show (⟨s.data.toList.toArray⟩ : ByteArray) = s from rfl] at e1
  rw [e1] at g1
  rw [← hx] at g4
  have hS : armor_Signs.f s = some x := by
    unfold armor_Signs.f
    rw [if_pos (by omega), hx]
  refine ⟨K1 + K2 + K3 + K4 + 1, fun n hn => ?_⟩
  obtain ⟨k, rfl⟩ : ∃ k, n = k + 1 := ⟨n - 1, by omega⟩
  have a1 := g1 k (by omega)
  have a2 := g2 k (by omega)
  have a3 := g3 k (by omega)
  have a4 := g4 k (by omega)
  clear g1 g2 g3 g4
  simp only [] at a1 a2 a3 a4
  show montagelaw42_ArmorSigns.j0 (k + 1) s t false = _
  rw [montagelaw42_ArmorSigns.j0, if_neg (by decide), hS, Option.bind_some, a1, Option.bind_some, a2, Option.bind_some, a3, Option.bind_some, a4, Option.bind_some, if_pos rfl, if_pos rfl, if_pos rfl, if_pos rfl, beq_self_eq_true]
theorem ArmorSigns : montagelaw42_ArmorSigns.Pure := by
  intro s t _ _
  refine Ev.rounds (r := true) ?_
  have hbig : Ev (fun k => montagelaw42_ArmorSigns.j0 k s t true) true := by
    refine Ev.step (f := fun _ => some true) (fun k => ?_) (Ev.now _)
    rw [montagelaw42_ArmorSigns.j0, if_pos rfl]
  have hgo : Ev (fun k => if (s.size : Int) > 200 then montagelaw42_ArmorSigns.j0 k s t true else montagelaw42_ArmorSigns.j0 k s t (decide ((t.size : Int) > 200))) true := by
    by_cases hs : (s.size : Int) > 200
    · exact Ev.congr (fun k => if_pos hs) hbig
    · by_cases ht : (t.size : Int) > 200
      · exact Ev.congr (fun k => by rw [if_neg hs, decide_eq_true ht]) hbig
      · exact Ev.congr (fun k => by rw [if_neg hs, decide_eq_false ht]) (signs_yes s t (by omega) (by omega))
  obtain ⟨K0, g0⟩ := awake_ev
  obtain ⟨K1, g1⟩ := hgo
  refine ⟨K0 + K1, fun n hn => ?_⟩
  have a0 := g0 n (by omega)
  have a1 := g1 n (by omega)
  simp only [] at a0 a1
  show montagelaw42_ArmorSigns.f n s t = _
  unfold montagelaw42_ArmorSigns.f
  rw [a0, Option.bind_some, if_pos rfl, a1]

end Go.Proofs.YtdaofffedfccmaaDoor.Pure
