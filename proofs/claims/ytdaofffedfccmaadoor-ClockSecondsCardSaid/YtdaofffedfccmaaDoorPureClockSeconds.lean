/- This text proves the statement over numbers and lists that the functions of the law ClockSeconds come to. It has no conditions. -/
import Derived.Test.YtdaofffedfccmaaDoorXClockDatesx9
import Derived.Test.YtdaofffedfccmaaDoorYClock8
namespace Go.Proofs.YtdaofffedfccmaaDoor.Pure
open Go.RowKit Go.Proofs.YtdaofffedfccmaaDoor.XClockDates Go.Proofs.YtdaofffedfccmaaDoorW.PrintWords Go.Proofs.YtdaofffedfccmaaDoorW.PrintLast Go.Proofs.YtdaofffedfccmaaDoorW.PrintMore
set_option linter.unusedVariables false
set_option linter.unusedSimpArgs false

open ClockP
theorem awake_ev : Ev (fun k => montagelaw41_awake.f k) true := Ev.of (fun k => montagelaw41_awake.mono k) (k := 60) (by kernel_rfl)
theorem secs_ev (y z : Int) (s : ByteArray) (hs : s.size ≤ 30) (d1 d2 d3 d4 d5 d6 d7 c1 c2 c3 c4 c5 c6 c7 p1 p2 p3 p4 p5 p6 p7 : Int)
    (h1 : Ev (fun k => clock_At.f k y) (d1, d2, d3, d4, d5, d6, d7)) (h2 : Ev (fun k => montageref41_At.f k y) (d1, d2, d3, d4, d5, d6, d7))
    (h3 : Ev (fun k => clock_Parse.f k s) (p1, p2, p3, p4, p5, p6, p7)) (h4 : Ev (fun k => montageref41_Parse.f k s) (p1, p2, p3, p4, p5, p6, p7))
    (h5 : Ev (fun k => clock_At.f k z) (c1, c2, c3, c4, c5, c6, c7))
    (hf : d7 ≠ 0 ∨ c7 ≠ 0 ∨ ∃ a b e f, Ev (fun k => clock_Put.f k d1 d2 d3 d4 d5 d6) (a, e) ∧ Ev (fun k => clock_Put.f k c1 c2 c3 c4 c5 c6) (b, f) ∧ decide (wrap64 (Int.tdiv y 2) < wrap64 (Int.tdiv z 2)) = decide (a < b)) :
    Ev (fun k => montagelaw41_ClockSeconds.f k y z s) true := by
  obtain ⟨K0, g0⟩ := awake_ev
  obtain ⟨K1, g1⟩ := h1
  obtain ⟨K2, g2⟩ := h2
  obtain ⟨K3, g3⟩ := h3
  obtain ⟨K4, g4⟩ := h4
  obtain ⟨K5, g5⟩ := h5
  have hgo : ∀ n, K0 + K1 + K2 + K3 + K4 + K5 + 2 ≤ n → ∃ m, n = m + 2 ∧ montagelaw41_ClockSeconds.f n y z s = (if d7 = 0 then montagelaw41_ClockSeconds.j1 (m + 1) (c7 != 0) y z d1 d2 d3 d4 d5 d6 c1 c2 c3 c4 c5 c6 else montagelaw41_ClockSeconds.j1 (m + 1) true y z d1 d2 d3 d4 d5 d6 c1 c2 c3 c4 c5 c6) := by
    intro n hn
    obtain ⟨m, rfl⟩ : ∃ m, n = m + 2 := ⟨n - 2, by omega⟩
    refine ⟨m, rfl, ?_⟩
    have a0 := g0 (m + 2) (by omega)
    have a1 := g1 (m + 2) (by omega)
    have a2 := g2 (m + 2) (by omega)
    have a3 := g3 (m + 2) (by omega)
    have a4 := g4 (m + 2) (by omega)
    have a5 := g5 (m + 1) (by omega)
    clear g0 g1 g2 g3 g4 g5
    simp only [] at a0 a1 a2 a3 a4 a5
    unfold montagelaw41_ClockSeconds.f
    rw [a0, Option.bind_some, if_pos rfl, if_neg (by omega), a1, Option.bind_some, a2, Option.bind_some, a3, Option.bind_some, a4, Option.bind_some, if_neg (by simp), if_pos rfl, if_neg (by simp)]
    show montagelaw41_ClockSeconds.j0 (m + 1 + 1) d7 (p7 != p7) y z d1 d2 d3 d4 d5 d6 = _
    rw [montagelaw41_ClockSeconds.j0]
    rw [if_neg (by simp), a5, Option.bind_some]
  clear g0 g1 g2 g3 g4 g5
  rcases hf with hd | hc | ⟨a, b, e, f, ⟨K6, g6⟩, ⟨K7, g7⟩, hab⟩
  · refine ⟨K0 + K1 + K2 + K3 + K4 + K5 + 2, fun n hn => ?_⟩
    obtain ⟨m, rfl, he⟩ := hgo n hn
    show montagelaw41_ClockSeconds.f (m + 2) y z s = _
    rw [he, if_neg hd]
    rw [montagelaw41_ClockSeconds.j1]
    rw [if_pos rfl]
  · refine ⟨K0 + K1 + K2 + K3 + K4 + K5 + 2, fun n hn => ?_⟩
    obtain ⟨m, rfl, he⟩ := hgo n hn
    show montagelaw41_ClockSeconds.f (m + 2) y z s = _
    rw [he, bne_iff_ne.mpr hc, ite_self]
    rw [montagelaw41_ClockSeconds.j1]
    rw [if_pos rfl]
  · refine ⟨K0 + K1 + K2 + K3 + K4 + K5 + K6 + K7 + 2, fun n hn => ?_⟩
    obtain ⟨m, rfl, he⟩ := hgo n (by omega)
    have a6 := g6 m (by omega)
    have a7 := g7 m (by omega)
    clear g6 g7 hgo
    simp only [] at a6 a7
    show montagelaw41_ClockSeconds.f (m + 2) y z s = _
    rw [he]
    by_cases hd : d7 = 0
    · rw [if_pos hd]
      by_cases hc : c7 = 0
      · rw [show (c7 != 0) = false by rw [hc]; rfl]
        rw [montagelaw41_ClockSeconds.j1]
        rw [if_neg (by decide), a6, Option.bind_some, a7, Option.bind_some]
        simp only []
        rw [hab, beq_self_eq_true]
      · rw [bne_iff_ne.mpr hc]
        rw [montagelaw41_ClockSeconds.j1]
        rw [if_pos rfl]
    · rw [if_neg hd]
      rw [montagelaw41_ClockSeconds.j1]
      rw [if_pos rfl]
theorem secs_long (y z : Int) (s : ByteArray) (hs : 30 < s.size) : Ev (fun k => montagelaw41_ClockSeconds.f k y z s) true := by
  obtain ⟨K0, g0⟩ := awake_ev
  refine ⟨K0, fun n hn => ?_⟩
  have a0 := g0 n hn
  simp only [] at a0
  show montagelaw41_ClockSeconds.f n y z s = _
  unfold montagelaw41_ClockSeconds.f
  rw [a0, Option.bind_some, if_pos rfl, if_pos (by omega)]
theorem i64_le (z : Int) (h : (Lit.int .i64 z).wf = true) : z ≤ 9223372036854775807 := by
  simp only [Lit.wf, IntKind.min, IntKind.max, IntKind.signed, IntKind.bits, Bool.and_eq_true, decide_eq_true_eq] at h
  simp at h
  omega
theorem half (z : Int) (h0 : 0 ≤ z) (h1 : z ≤ 9223372036854775807) : wrap64 (Int.tdiv z 2) = z / 2 := by
  rw [Int.tdiv_eq_ediv_of_nonneg h0, w64c (by omega) (by omega)]
theorem ClockSeconds : montagelaw41_ClockSeconds.Pure := by
  intro y z s hy hz _
  have hy := i64_le y hy
  have hz := i64_le z hz
  refine Ev.rounds (r := true) ?_
  by_cases hs : s.size ≤ 30
  · obtain ⟨⟨p1, p2, p3, p4, p5, p6, p7⟩, h3, h4⟩ := parse_both s hs
    rcases at_any y hy with ⟨P, hP, y0, u1, u2⟩ | ⟨u1, u2⟩
    · obtain ⟨v1, v2⟩ := at_ok y y0 P hP u1 u2
      rcases at_any z hz with ⟨Q, hQ, z0, x1, x2⟩ | ⟨x1, x2⟩
      · refine secs_ev y z s hs _ _ _ _ _ _ _ _ _ _ _ _ _ _ _ _ _ _ _ _ _ v1 v2 h3 h4 (at_ok z z0 Q hQ x1 x2).1 (.inr (.inr ⟨_, _, _, _, put_at P hP y y0 u1 u2, put_at Q hQ z z0 x1 x2, ?_⟩))
        rw [half y y0 hy, half z z0 hz]
        exact decide_eq_decide.mpr (put_order P Q y z y0 z0 u1 u2 x1 x2)
      · exact secs_ev y z s hs _ _ _ _ _ _ _ _ _ _ _ _ _ _ _ _ _ _ _ _ _ v1 v2 h3 h4 x1 (.inr (.inl (by decide)))
    · obtain ⟨⟨c1, c2, c3, c4, c5, c6, c7⟩, x1, _⟩ := at_same z hz
      exact secs_ev y z s hs _ _ _ _ _ _ _ _ _ _ _ _ _ _ _ _ _ _ _ _ _ u1 u2 h3 h4 x1 (.inl (by decide))
  · exact secs_long y z s (by omega)

end Go.Proofs.YtdaofffedfccmaaDoor.Pure
