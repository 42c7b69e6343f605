/- This text proves the statement over numbers and lists that the functions of the law RunsShort come to. It has no conditions. -/
import Derived.Test.YtndcfccbicognaaXRunsShortx5
namespace Go.Proofs.Ytndcfccbicognaa.Pure
open Go.RowKit Go.Proofs.Ytndcfccbicognaa.XRunsShort Go.Proofs.YtndcfccbicognaaW.PrintWords Go.Proofs.YtndcfccbicognaaW.PrintLast Go.Proofs.YtndcfccbicognaaW.PrintMore
set_option linter.unusedVariables false
set_option linter.unusedSimpArgs false

theorem cast1 (i : Nat) : ((i + 1 : Nat) : Int) = (i : Int) + 1 := by omega

theorem w64 {x : Int} (h0 : -9223372036854775808 ≤ x) (h1 : x < 9223372036854775808) : wrap64 x = x := by unfold wrap64; omega

/-- Symbol s stands for n times v behind out. -/
def One (out : List Int) (s : S76) (v : Int) (n : Nat) : Prop :=
  (0 ≤ s.f0 ∧ s.f0 < 16 ∧ s.f1 = 0 ∧ v = s.f0 ∧ n = 1) ∨ (s.f0 = 16 ∧ (∃ pre, out = pre ++ [v]) ∧ 0 ≤ s.f1 ∧ s.f1 < 4 ∧ (n : Int) = 3 + s.f1) ∨ (s.f0 = 17 ∧ v = 0 ∧ 0 ≤ s.f1 ∧ s.f1 < 8 ∧ (n : Int) = 3 + s.f1) ∨ (s.f0 = 18 ∧ v = 0 ∧ 0 ≤ s.f1 ∧ s.f1 < 128 ∧ (n : Int) = 11 + s.f1)

/-- Symbols lead from one row to another one. -/
def Says : List S76 → List Int → List Int → Prop
  | [], out, out' => out' = out
  | s :: p, out, out' => ∃ v n, One out s v n ∧ Says p (out ++ List.replicate n v) out'

theorem Says.append : ∀ {p q : List S76} {a b c : List Int}, Says p a b → Says q b c → Says (p ++ q) a c
  | [], _, _, _, _, h, h2 => by
    simp only [Says] at h
    subst h
    exact h2
  | _ :: _, _, _, _, _, ⟨v, n, h1, h⟩, h2 => ⟨v, n, h1, Says.append h h2⟩

theorem Says.len : ∀ {p : List S76} {a b : List Int}, Says p a b → a.length ≤ b.length
  | [], _, _, h => by simp only [Says] at h; rw [h]; exact Nat.le_refl _
  | _ :: _, _, _, ⟨v, n, _, h⟩ => by have := Says.len h; simp at this; omega

theorem get_of_drop {l p : List S76} {s : S76} {i : Nat} (h : l.drop i = s :: p) : i < l.length ∧ rd_T76 l (i : Int) = s ∧ l.drop (i + 1) = p := by
  have hlt : i < l.length := by
    rcases Nat.lt_or_ge i l.length with h1 | h1
    · exact h1
    · rw [List.drop_eq_nil_of_le h1] at h
      cases h
  rw [List.drop_eq_getElem_cons hlt] at h
  injection h with h1 h2
  refine ⟨hlt, ?_, h2⟩
  unfold rd_T76
  rw [Int.toNat_natCast, List.getD_eq_getElem?_getD, List.getElem?_eq_getElem hlt]
  exact h1

theorem rd_last (pre : List Int) (v : Int) : rd (pre ++ [v]) (wrap64 (((pre ++ [v]).length : Int) - 1)) = v ∨ 1000 < pre.length := by
  by_cases h : 1000 < pre.length
  · exact .inr h
  · left
    have hl : (((pre ++ [v]).length : Nat) : Int) = pre.length + 1 := by simp
    rw [w64 (by omega) (by omega)]
    unfold rd
    have : (((pre ++ [v]).length : Int) - 1).toNat = pre.length := by simp
    rw [this, List.getD_eq_getElem?_getD, List.getElem?_append_right (Nat.le_refl _)]
    simp

theorem unp_l1 (x7 : Int) (x9 : List S76) (x10 x11 x58 : Int) (r : List Int × Int) (hx : 0 ≤ x11) (hx2 : x11 < 1000000000) (h58 : x58 ≤ 1000) : ∀ (d : Nat) (x4 : List Int) (x59 : Int), 0 ≤ x59 → x58 - x59 = d → x4.length + d ≤ 1000 →
    Ev (fun k => runs_Unpack.l0 k (x4 ++ List.replicate d x7) x9 x10 (x11 + 1)) r → Ev (fun k => runs_Unpack.l1 k x4 x7 x9 x10 x11 x58 x59) r
  | 0, x4, x59, h0, hd, hl, h => by
    refine Ev.step (f := fun k => runs_Unpack.l0 k (x4 ++ List.replicate 0 x7) x9 x10 (x11 + 1)) (fun k => ?_) h
    simp only [runs_Unpack.l1]
    rw [if_neg (by omega), w64 (by omega) (by omega), List.replicate_zero, List.append_nil]
  | d + 1, x4, x59, h0, hd, hl, h => by
    refine Ev.step (f := fun k => runs_Unpack.l1 k (x4 ++ [x7]) x7 x9 x10 x11 x58 (x59 + 1)) (fun k => ?_) (unp_l1 x7 x9 x10 x11 x58 r hx hx2 h58 d (x4 ++ [x7]) (x59 + 1) (by omega) (by omega) (by simp; omega) ?_)
    · simp only [runs_Unpack.l1]
      rw [if_pos (by omega), if_pos (by omega), w64 (by omega) (by omega)]
    · rw [List.append_assoc, List.singleton_append, ← List.replicate_succ]
      exact h

theorem one_of {out : List Int} {s : S76} {v : Int} {n : Nat} (h : One out s v n) (hl : out.length ≤ 1000) : runs_one.f out s.f0 s.f1 = some (v, (n : Int)) := by
  rcases h with ⟨h0, h1, h2, h3, h4⟩ | ⟨h0, ⟨pre, rfl⟩, h2, h3, h4⟩ | ⟨h0, h1, h2, h3, h4⟩ | ⟨h0, h1, h2, h3, h4⟩
  · unfold runs_one.f
    rw [if_pos h1, h3, h4]
    rfl
  · have hr := (rd_last pre v).resolve_right (by simp at hl; omega)
    have hw : wrap64 (((pre ++ [v]).length : Int) - 1) = ((pre ++ [v]).length : Int) - 1 := w64 (by omega) (by omega)
    unfold runs_one.f runs_kindOf.f
    rw [if_neg (by omega), if_pos h0]
    simp only [Option.bind_some]
    rw [if_pos h0, hr, if_pos (by rw [hw]; simp), if_pos (by rw [hw]; omega), w64 (by omega) (by omega), h4]
  · unfold runs_one.f runs_kindOf.f
    rw [if_neg (by omega), if_neg (by omega), if_pos h0]
    simp only [Option.bind_some]
    rw [if_neg (by omega), w64 (by omega) (by omega), h4, h1]
  · unfold runs_one.f runs_kindOf.f
    rw [if_neg (by omega), if_neg (by omega), if_neg (by omega)]
    simp only [Option.bind_some]
    rw [if_neg (by omega), w64 (by omega) (by omega), h4, h1]

/-- A symbol's number has place in its bits. -/
theorem bits_of {out : List Int} {s : S76} {v : Int} {n : Nat} (h : One out s v n) : ∃ t, runs_Bits.f s.f0 = some t ∧ 0 ≤ t ∧ decide (s.f1 ≥ shl .i64 1 t) = false := by
  rcases h with ⟨h0, h1, h2, h3, h4⟩ | ⟨h0, _, h2, h3, h4⟩ | ⟨h0, h1, h2, h3, h4⟩ | ⟨h0, h1, h2, h3, h4⟩
  · refine ⟨0, by unfold runs_Bits.f; rw [if_neg (by omega), if_neg (by omega), if_neg (by omega)], by omega, ?_⟩
    rw [show shl .i64 1 0 = 1 from by decide +kernel]; simp; omega
  · refine ⟨2, by unfold runs_Bits.f; rw [if_pos h0], by omega, ?_⟩
    rw [show shl .i64 1 2 = 4 from by decide +kernel]; simp; omega
  · refine ⟨3, by unfold runs_Bits.f; rw [if_neg (by omega), if_pos h0], by omega, ?_⟩
    rw [show shl .i64 1 3 = 8 from by decide +kernel]; simp; omega
  · refine ⟨7, by unfold runs_Bits.f; rw [if_neg (by omega), if_neg (by omega), if_pos h0], by omega, ?_⟩
    rw [show shl .i64 1 7 = 128 from by decide +kernel]; simp; omega

theorem bits_ref (s : Int) : montageref10_Bits.f s = runs_Bits.f s := rfl

theorem One.bounds {out : List Int} {s : S76} {v : Int} {n : Nat} (h : One out s v n) : 0 ≤ s.f0 ∧ s.f0 ≤ 18 ∧ 0 ≤ s.f1 ∧ s.f1 < 128 ∧ (s.f0 = 16 → out ≠ []) := by
  rcases h with ⟨h0, h1, h2, h3, h4⟩ | ⟨h0, ⟨pre, rfl⟩, h2, h3, h4⟩ | ⟨h0, h1, h2, h3, h4⟩ | ⟨h0, h1, h2, h3, h4⟩ <;> exact ⟨by omega, by omega, by omega, by omega, by first | (intro _; omega) | (intro _; simp)⟩

theorem unp_j1 (l : List S76) (out : List Int) (i : Nat) (s : S76) (v : Int) (n : Nat) (h1 : One out s v n) (r : List Int × Int) (h : Ev (fun k => runs_Unpack.j2 k out l (l.length : Int) (i : Int) s.f0 s.f1) r) : Ev (fun k => runs_Unpack.j1 k out l (l.length : Int) (i : Int) false s.f0 s.f1) r := by
  obtain ⟨b0, b1, b2, b3, b4⟩ := h1.bounds
  refine Ev.step (fun k => ?_) h
  simp only [runs_Unpack.j1]
  by_cases h16 : s.f0 = 16
  · have hne := b4 h16
    have : out.length ≠ 0 := fun h => hne (List.eq_nil_of_length_eq_zero h)
    rw [if_neg (by simp), if_pos h16, if_neg (by omega)]
  · rw [if_neg (by simp), if_neg h16]

theorem unp_j2 (l : List S76) (out : List Int) (i : Nat) (s : S76) (v : Int) (n : Nat) (h1 : One out s v n) (hl : out.length + n ≤ 1000) (r : List Int × Int) (h : Ev (fun k => runs_Unpack.l1 k out v l (l.length : Int) (i : Int) (n : Int) 0) r) : Ev (fun k => runs_Unpack.j2 k out l (l.length : Int) (i : Int) s.f0 s.f1) r := by
  have hone := one_of h1 (by omega)
  refine Ev.step (fun k => ?_) h
  have e : runs_Unpack.j2 (k + 1) out l (l.length : Int) (i : Int) s.f0 s.f1 = (runs_one.f out s.f0 s.f1).bind fun bt144 => (if (wrap64 ((out.length : Int) + bt144.2)) > 1000 then (some (([] : List Int), 7)) else (runs_Unpack.l1 k out bt144.1 l (l.length : Int) (i : Int) bt144.2 0)) := by simp only [runs_Unpack.j2]
  show runs_Unpack.j2 (k + 1) out l (l.length : Int) (i : Int) s.f0 s.f1 = _
  rw [e, hone, Option.bind_some]
  show (if (wrap64 ((out.length : Int) + (n : Int))) > 1000 then (some (([] : List Int), 7)) else (runs_Unpack.l1 k out v l (l.length : Int) (i : Int) (n : Int) 0)) = _
  rw [w64 (by omega) (by omega), if_neg (by omega)]

theorem unp (l : List S76) (hl : l.length ≤ 100000) : ∀ (p : List S76) (out : List Int) (i : Nat) (out' : List Int), l.drop i = p → Says p out out' → out'.length ≤ 1000 → Ev (fun k => runs_Unpack.l0 k out l (l.length : Int) (i : Int)) (out', 0) := by
  intro p
  induction p with
  | nil =>
    intro out i out' hd hs ho
    simp only [Says] at hs
    subst hs
    have hi : l.length ≤ i := by
      have := congrArg List.length hd
      simp at this; omega
    refine Ev.step (f := fun _ => some (out', 0)) (fun k => ?_) (Ev.now _)
    simp only [runs_Unpack.l0]
    rw [if_neg (by omega)]
  | cons s p ih =>
    intro out i out' hd hsay ho
    obtain ⟨v, n, h1, hs⟩ := hsay
    obtain ⟨hi, hg, hd'⟩ := get_of_drop hd
    have hlen := Says.len hs
    simp at hlen
    obtain ⟨b0, b1, b2, b3, b4⟩ := h1.bounds
    obtain ⟨t, ht, ht0, hdec⟩ := bits_of h1
    refine Ev.step (f := fun k => runs_Unpack.j1 k out l (l.length : Int) (i : Int) false s.f0 s.f1) (fun k => ?_) ?_
    · simp only [runs_Unpack.l0]
      rw [if_pos (by omega), if_pos (by omega), if_pos (by omega), hg, if_neg (by omega), if_neg (by omega), if_neg (by omega), ht]
      simp only [Option.bind_some]
      rw [if_pos ht0, hdec]
    refine unp_j1 l out i s v n h1 _ (unp_j2 l out i s v n h1 (by omega) _ ?_)
    have hrec := ih _ (i + 1) out' hd' hs ho
    rw [cast1] at hrec
    exact unp_l1 v l _ _ _ _ (by omega) (by omega) (by omega) n out 0 (by omega) (by omega) (by omega) hrec

theorem ref_l1 (x8 : Int) (x0 : List S76) (x5 x7 : Int) (r : List Int × Int) (hx : 0 ≤ x5) (hx2 : x5 < 1000000000) (h7 : x7 ≤ 1000) : ∀ (d : Nat) (x4 : List Int) (x9 : Int), 0 ≤ x9 → x7 - x9 = d → x4.length + d ≤ 1000 →
    Ev (fun k => montageref10_Unpack.l0 k x0 (x4 ++ List.replicate d x8) (x5 + 1)) r → Ev (fun k => montageref10_Unpack.l1 k x0 x4 x5 x7 x8 x9) r
  | 0, x4, x9, h0, hd, hl, h => by
    refine Ev.step (f := fun k => montageref10_Unpack.l0 k x0 (x4 ++ List.replicate 0 x8) (x5 + 1)) (fun k => ?_) h
    simp only [montageref10_Unpack.l1]
    rw [if_neg (by omega), w64 (by omega) (by omega), List.replicate_zero, List.append_nil]
  | d + 1, x4, x9, h0, hd, hl, h => by
    refine Ev.step (f := fun k => montageref10_Unpack.l1 k x0 (x4 ++ [x8]) x5 x7 x8 (x9 + 1)) (fun k => ?_) (ref_l1 x8 x0 x5 x7 r hx hx2 h7 d (x4 ++ [x8]) (x9 + 1) (by omega) (by omega) (by simp; omega) ?_)
    · simp only [montageref10_Unpack.l1]
      rw [if_pos (by omega), if_pos (by omega), w64 (by omega) (by omega)]
    · rw [List.append_assoc, List.singleton_append, ← List.replicate_succ]
      exact h

theorem refu (l : List S76) (hl : l.length ≤ 100000) : ∀ (p : List S76) (out : List Int) (i : Nat) (out' : List Int), l.drop i = p → Says p out out' → out'.length ≤ 1000 → Ev (fun k => montageref10_Unpack.l0 k l out (i : Int)) (out', 0) := by
  intro p
  induction p with
  | nil =>
    intro out i out' hd hs ho
    simp only [Says] at hs
    subst hs
    have hi : l.length ≤ i := by
      have := congrArg List.length hd
      simp at this; omega
    refine Ev.step (f := fun _ => some (out', 0)) (fun k => ?_) (Ev.now _)
    simp only [montageref10_Unpack.l0]
    rw [if_neg (by omega)]
  | cons s p ih =>
    intro out i out' hd hsay ho
    obtain ⟨v, n, h1, hs⟩ := hsay
    obtain ⟨hi, hg, hd'⟩ := get_of_drop hd
    have hlen := Says.len hs
    simp at hlen
    obtain ⟨b0, b1, b2, b3, b4⟩ := h1.bounds
    obtain ⟨t, ht, ht0, hdec⟩ := bits_of h1
    have hrec := ih _ (i + 1) out' hd' hs ho
    rw [cast1] at hrec
    have hlast := ref_l1 v l (i : Int) (n : Int) (out', 0) (by omega) (by omega) (by omega) n out 0 (by omega) (by omega) (by omega) hrec
    have h5 : Ev (fun k => montageref10_Unpack.j5 k l out (i : Int) (n : Int) v) (out', 0) := by
      refine Ev.step (fun k => ?_) hlast
      simp only [montageref10_Unpack.j5]
      rw [w64 (by omega) (by omega), if_neg (by omega)]
    refine Ev.step (f := fun k => montageref10_Unpack.j1 k l out (i : Int) false s.f0 s.f1) (fun k => ?_) ?_
    · simp only [montageref10_Unpack.l0]
      rw [if_pos (by omega), if_pos (by omega), hg, if_neg (by omega), if_neg (by omega), if_neg (by omega), bits_ref, ht]
      simp only [Option.bind_some]
      rw [if_pos ht0, hdec]
    refine Ev.step (f := fun k => montageref10_Unpack.j2 k l out (i : Int) false s.f0 s.f1) (fun k => ?_) ?_
    · simp only [montageref10_Unpack.j1]
      by_cases h16 : s.f0 = 16
      · have hne := b4 h16
        have h0 : out.length ≠ 0 := fun h => hne (List.eq_nil_of_length_eq_zero h)
        have h1 : ((out.length : Int) == 0) = false := beq_eq_false_iff_ne.mpr (by omega)
        rw [if_neg (by simp), if_pos h16, h1]
      · rw [if_neg (by simp), if_neg h16]
    rcases h1 with ⟨h0, h1, h2, h3, h4⟩ | ⟨h0, ⟨pre, rfl⟩, h2, h3, h4⟩ | ⟨h0, h1, h2, h3, h4⟩ | ⟨h0, h1, h2, h3, h4⟩
    · refine Ev.step (f := fun k => montageref10_Unpack.j3 k l out (i : Int) 1 s.f0 s.f0 s.f1) (fun k => ?_) ?_
      · simp only [montageref10_Unpack.j2]
        rw [if_neg (by simp), if_neg (by omega)]
      refine Ev.step (f := fun k => montageref10_Unpack.j4 k l out (i : Int) 1 s.f0 s.f0 s.f1) (fun k => ?_) ?_
      · simp only [montageref10_Unpack.j3]
        rw [if_neg (by omega)]
      refine Ev.step (fun k => ?_) h5
      simp only [montageref10_Unpack.j4]
      rw [if_neg (by omega), h3, h4]
      rfl
    · have hr := (rd_last pre v).resolve_right (by simp at hlen; omega)
      have hw : wrap64 (((pre ++ [v]).length : Int) - 1) = ((pre ++ [v]).length : Int) - 1 := w64 (by omega) (by omega)
      refine Ev.step (f := fun k => montageref10_Unpack.j3 k l (pre ++ [v]) (i : Int) (n : Int) v s.f0 s.f1) (fun k => ?_) ?_
      · simp only [montageref10_Unpack.j2]
        rw [if_neg (by simp), if_pos h0, hr, if_pos (by rw [hw]; simp), if_pos (by rw [hw]; omega), w64 (by omega) (by omega), h4]
      refine Ev.step (f := fun k => montageref10_Unpack.j4 k l (pre ++ [v]) (i : Int) (n : Int) v s.f0 s.f1) (fun k => ?_) ?_
      · simp only [montageref10_Unpack.j3]
        rw [if_neg (by omega)]
      refine Ev.step (fun k => ?_) h5
      simp only [montageref10_Unpack.j4]
      rw [if_neg (by omega)]
    · refine Ev.step (f := fun k => montageref10_Unpack.j3 k l out (i : Int) 1 s.f0 s.f0 s.f1) (fun k => ?_) ?_
      · simp only [montageref10_Unpack.j2]
        rw [if_neg (by simp), if_neg (by omega)]
      refine Ev.step (f := fun k => montageref10_Unpack.j4 k l out (i : Int) (n : Int) v s.f0 s.f1) (fun k => ?_) ?_
      · simp only [montageref10_Unpack.j3]
        rw [if_pos h0, w64 (by omega) (by omega), h4, h1]
      refine Ev.step (fun k => ?_) h5
      simp only [montageref10_Unpack.j4]
      rw [if_neg (by omega)]
    · refine Ev.step (f := fun k => montageref10_Unpack.j3 k l out (i : Int) 1 s.f0 s.f0 s.f1) (fun k => ?_) ?_
      · simp only [montageref10_Unpack.j2]
        rw [if_neg (by simp), if_neg (by omega)]
      refine Ev.step (f := fun k => montageref10_Unpack.j4 k l out (i : Int) 1 s.f0 s.f0 s.f1) (fun k => ?_) ?_
      · simp only [montageref10_Unpack.j3]
        rw [if_neg (by omega)]
      refine Ev.step (fun k => ?_) h5
      simp only [montageref10_Unpack.j4]
      rw [if_pos h0, w64 (by omega) (by omega), h4, h1]
/-- What 'several' comes to. -/
structure Sev (sym lo hi n : Int) (q : List S76) (r : Int) : Prop where
  r0 : 0 ≤ r
  r1 : r < lo
  r2 : r ≤ n
  q0 : (q.length : Int) * lo ≤ n - r
  q1 : (q.length : Int) * hi ≤ n - r + (hi - lo)
  q2 : 0 < r → (q.length : Int) * hi = n - r
  q3 : ∀ (out : List Int) (v : Int), (sym = 16 → ∃ pre, out = pre ++ [v]) → (sym ≠ 16 → v = 0) → Says q out (out ++ List.replicate (n - r).toNat v)

theorem replicate_last (out : List Int) (v : Int) (m : Nat) (h : ∃ pre, out = pre ++ [v]) : ∃ pre, out ++ List.replicate m v = pre ++ [v] := by
  obtain ⟨pre, rfl⟩ := h
  refine ⟨pre ++ List.replicate m v, ?_⟩
  rw [List.append_assoc, List.append_assoc, ← List.replicate_succ', List.singleton_append, ← List.replicate_succ]

theorem sev (sym lo hi : Int) (hk : (sym = 16 ∧ lo = 3 ∧ hi = 6) ∨ (sym = 17 ∧ lo = 3 ∧ hi = 10) ∨ (sym = 18 ∧ lo = 11 ∧ hi = 138)) : ∀ (d : Nat) (n : Int) (x0 : List S76), n ≤ d → 0 ≤ n → n ≤ 2000 → x0.length + n ≤ 4000 →
    ∃ q r, Ev (fun k => runs_several.l0 k x0 sym n lo hi) (x0 ++ q, r) ∧ Sev sym lo hi n q r := by
  intro d
  induction d with
  | zero =>
    intro n x0 hd h0 h1 hx
    refine ⟨[], n, ?_, ⟨h0, by omega, Int.le_refl _, by simp, by simp; omega, fun _ => by simp, fun out v _ _ => by simp [Says]⟩⟩
    refine Ev.step (f := fun _ => some (x0 ++ [], n)) (fun k => ?_) (Ev.now _)
    simp only [runs_several.l0]
    rw [if_neg (by omega), List.append_nil]
  | succ d ih =>
    intro n x0 hd h0 h1 hx
    by_cases hlo : n < lo
    · refine ⟨[], n, ?_, ⟨h0, by omega, Int.le_refl _, by simp, by simp; omega, fun _ => by simp, fun out v _ _ => by simp [Says]⟩⟩
      refine Ev.step (f := fun _ => some (x0 ++ [], n)) (fun k => ?_) (Ev.now _)
      simp only [runs_several.l0]
      rw [if_neg (by omega), List.append_nil]
    · have hm : ∃ m, mn n hi = m ∧ lo ≤ m ∧ m ≤ hi ∧ m ≤ n ∧ (m = hi ∨ m = n) := by
        refine ⟨mn n hi, rfl, ?_⟩
        unfold mn
        split <;> omega
      obtain ⟨m, hm, m0, m1, m2, m3⟩ := hm
      obtain ⟨q, r, he, S⟩ := ih (n - m) (x0 ++ [(⟨sym, m - lo⟩ : S76)]) (by omega) (by omega) (by omega) (by simp; omega)
      have l1 : ((⟨sym, m - lo⟩ :: q : List S76).length : Int) = q.length + 1 := by simp
      have hr1 := S.r1
      have hr0 := S.r0
      have hr2 := S.r2
      have hq0 := S.q0
      have hq1 := S.q1
      have hq2 := S.q2
      refine ⟨⟨sym, m - lo⟩ :: q, r, ?_, ⟨S.r0, S.r1, by omega, ?_, ?_, ?_, ?_⟩⟩
      · refine Ev.step (f := fun k => runs_several.l0 k (x0 ++ [(⟨sym, m - lo⟩ : S76)]) sym (n - m) lo hi) (fun k => ?_) (by rw [List.append_assoc] at he; exact he)
        simp only [runs_several.l0]
        rw [if_pos (by omega), if_pos (by omega), hm, w64 (by omega) (by omega), w64 (by omega) (by omega)]
      · rw [l1]; rcases hk with ⟨_, rfl, rfl⟩ | ⟨_, rfl, rfl⟩ | ⟨_, rfl, rfl⟩ <;> omega
      · rw [l1]
        rcases m3 with rfl | rfl
        · rcases hk with ⟨_, rfl, rfl⟩ | ⟨_, rfl, rfl⟩ | ⟨_, rfl, rfl⟩ <;> omega
        · have hq : (q.length : Int) = 0 := by rcases hk with ⟨_, rfl, rfl⟩ | ⟨_, rfl, rfl⟩ | ⟨_, rfl, rfl⟩ <;> omega
          rw [hq]; omega
      · intro hr
        have := hq2 hr
        rw [l1]
        rcases m3 with rfl | rfl
        · rcases hk with ⟨_, rfl, rfl⟩ | ⟨_, rfl, rfl⟩ | ⟨_, rfl, rfl⟩ <;> omega
        · omega
      · intro out v hv16 hv0
        refine ⟨v, m.toNat, ?_, ?_⟩
        · rcases hk with ⟨rfl, rfl, rfl⟩ | ⟨rfl, rfl, rfl⟩ | ⟨rfl, rfl, rfl⟩
          · exact .inr (.inl ⟨rfl, hv16 rfl, by simp; omega, by simp; omega, by simp; omega⟩)
          · exact .inr (.inr (.inl ⟨rfl, hv0 (by omega), by simp; omega, by simp; omega, by simp; omega⟩))
          · exact .inr (.inr (.inr ⟨rfl, hv0 (by omega), by simp; omega, by simp; omega, by simp; omega⟩))
        · have h := S.q3 (out ++ List.replicate m.toNat v) v (fun h => replicate_last _ _ _ (hv16 h)) hv0
          rw [List.append_assoc, List.replicate_append_replicate, show m.toNat + (n - m - r).toNat = (n - r).toNat from by omega] at h
          exact h

theorem several_of (sym n : Int) (x0 : List S76) (hk : sym = 16 ∨ sym = 17 ∨ sym = 18) (h0 : 0 ≤ n) (h1 : n ≤ 2000) (hx : x0.length + n ≤ 4000) : ∃ q r lo hi, ((sym = 16 ∧ lo = 3 ∧ hi = 6) ∨ (sym = 17 ∧ lo = 3 ∧ hi = 10) ∨ (sym = 18 ∧ lo = 11 ∧ hi = 138)) ∧ Ev (fun k => runs_several.f k x0 sym n) (x0 ++ q, r) ∧ Sev sym lo hi n q r := by
  have key : ∀ lo hi, runs_kindOf.f sym = some (lo, hi) → ((sym = 16 ∧ lo = 3 ∧ hi = 6) ∨ (sym = 17 ∧ lo = 3 ∧ hi = 10) ∨ (sym = 18 ∧ lo = 11 ∧ hi = 138)) → ∃ q r lo hi, ((sym = 16 ∧ lo = 3 ∧ hi = 6) ∨ (sym = 17 ∧ lo = 3 ∧ hi = 10) ∨ (sym = 18 ∧ lo = 11 ∧ hi = 138)) ∧ Ev (fun k => runs_several.f k x0 sym n) (x0 ++ q, r) ∧ Sev sym lo hi n q r := by
    intro lo hi hkd hc
    obtain ⟨q, r, he, S⟩ := sev sym lo hi hc n.toNat n x0 (by omega) h0 h1 hx
    refine ⟨q, r, lo, hi, hc, ?_, S⟩
    refine Ev.congr (fun k => ?_) he
    unfold runs_several.f
    rw [hkd]
    rfl
  rcases hk with rfl | rfl | rfl
  · exact key 3 6 (by decide +kernel) (by decide)
  · exact key 3 10 (by decide +kernel) (by decide)
  · exact key 11 138 (by decide +kernel) (by decide)

theorem run_l0 (v n : Int) (hn : n ≤ 2000) : ∀ (d : Nat) (x0 : List S76) (i : Int), 0 ≤ i → n - i = d → x0.length + d ≤ 8000 → Ev (fun k => runs_run.l0 k x0 v n i) (x0 ++ List.replicate d ⟨v, 0⟩)
  | 0, x0, i, h0, hd, hx => by
    refine Ev.step (f := fun _ => some (x0 ++ List.replicate 0 ⟨v, 0⟩)) (fun k => ?_) (Ev.now _)
    simp only [runs_run.l0]
    rw [if_neg (by omega), List.replicate_zero, List.append_nil]
  | d + 1, x0, i, h0, hd, hx => by
    have h := run_l0 v n hn d (x0 ++ [⟨v, 0⟩]) (i + 1) (by omega) (by omega) (by simp; omega)
    rw [List.append_assoc, List.singleton_append, ← List.replicate_succ] at h
    refine Ev.step (fun k => ?_) h
    simp only [runs_run.l0]
    rw [if_pos (by omega), if_pos (by omega), w64 (by omega) (by omega)]

theorem says_singles (v : Int) (h0 : 0 ≤ v) (h1 : v ≤ 15) : ∀ (d : Nat) (out : List Int), Says (List.replicate d ⟨v, 0⟩) out (out ++ List.replicate d v)
  | 0, out => by simp [Says]
  | d + 1, out => by
    rw [List.replicate_succ]
    refine ⟨v, 1, .inl ⟨h0, by simp; omega, rfl, rfl, rfl⟩, ?_⟩
    have h := says_singles v h0 h1 d (out ++ List.replicate 1 v)
    rw [List.append_assoc, List.replicate_append_replicate, Nat.add_comm] at h
    exact h

theorem run_j0 (x0 : List S76) (v n : Int) (h0 : 0 ≤ n) (h1 : n ≤ 2000) (hx : x0.length + n ≤ 8000) : Ev (fun k => runs_run.j0 k x0 v n) (x0 ++ List.replicate n.toNat ⟨v, 0⟩) := by
  refine Ev.step (fun k => ?_) (run_l0 v n h1 n.toNat x0 0 (by omega) (by omega) (by omega))
  simp only [runs_run.j0]

/-- What 'run' appends. -/
theorem run_of (x0 : List S76) (v n : Int) (v0 : 0 ≤ v) (v1 : v ≤ 15) (h0 : 1 ≤ n) (h1 : n ≤ 1500) (hx : x0.length ≤ 1500) :
    ∃ q, Ev (fun k => runs_run.f k x0 v n) (x0 ++ q) ∧ (q.length : Int) ≤ n ∧ (∀ out, Says q out (out ++ List.replicate n.toNat v)) ∧ (v = 0 → (q.length : Int) ≤ 3 + n / 138) ∧ (v ≠ 0 → (q.length : Int) ≤ 3 + n / 3) := by
  by_cases hv : v = 0
  · obtain ⟨q1, r1, lo1, hi1, hc1, he1, S1⟩ := several_of 18 n x0 (by omega) (by omega) (by omega) (by omega)
    obtain ⟨rfl, rfl⟩ : lo1 = 11 ∧ hi1 = 138 := by omega
    have a0 := S1.r0; have a1 := S1.r1; have a2 := S1.r2; have a3 := S1.q0; have a4 := S1.q1; have a5 := S1.q2
    obtain ⟨q2, r2, lo2, hi2, hc2, he2, S2⟩ := several_of 17 r1 (x0 ++ q1) (by omega) (by omega) (by omega) (by simp; omega)
    obtain ⟨rfl, rfl⟩ : lo2 = 3 ∧ hi2 = 10 := by omega
    have b0 := S2.r0; have b1 := S2.r1; have b2 := S2.r2; have b3 := S2.q0; have b4 := S2.q1; have b5 := S2.q2
    have hj := run_j0 (x0 ++ q1 ++ q2) v r2 (by omega) (by omega) (by simp; omega)
    refine ⟨q1 ++ (q2 ++ List.replicate r2.toNat ⟨v, 0⟩), ?_, ?_, ?_, ?_, fun h => absurd hv h⟩
    · have h := Ev.bind (f := fun k (b : List S76 × Int) => (runs_several.f k b.1 17 b.2).bind fun b => runs_run.j0 k b.1 v b.2) he1 (Ev.bind (f := fun k (b : List S76 × Int) => runs_run.j0 k b.1 v b.2) he2 hj)
      rw [List.append_assoc, List.append_assoc] at h
      refine Ev.congr (fun k => ?_) h
      unfold runs_run.f
      rw [if_pos hv]
    · simp; omega
    · intro out
      have s1 := S1.q3 out v (fun h => absurd h (by omega)) (fun _ => hv)
      have s2 := S2.q3 (out ++ List.replicate (n - r1).toNat v) v (fun h => absurd h (by omega)) (fun _ => hv)
      have s3 := says_singles v v0 v1 r2.toNat (out ++ List.replicate (n - r1).toNat v ++ List.replicate (r1 - r2).toNat v)
      have s := s1.append (s2.append s3)
      rw [List.append_assoc, List.append_assoc, List.replicate_append_replicate, List.replicate_append_replicate, show (n - r1).toNat + ((r1 - r2).toNat + r2.toNat) = n.toNat from by omega] at s
      exact s
    · intro _
      simp only [List.length_append, List.length_replicate]
      have b6 : 0 < r1 ∨ r1 = 0 := by omega
      rcases b6 with b6 | b6
      · have := a5 b6; omega
      · omega
  · obtain ⟨q1, r1, lo1, hi1, hc1, he1, S1⟩ := several_of 16 (n - 1) (x0 ++ [⟨v, 0⟩]) (by omega) (by omega) (by omega) (by simp; omega)
    obtain ⟨rfl, rfl⟩ : lo1 = 3 ∧ hi1 = 6 := by omega
    have a0 := S1.r0; have a1 := S1.r1; have a2 := S1.r2; have a3 := S1.q0; have a4 := S1.q1; have a5 := S1.q2
    have hj := run_j0 (x0 ++ [⟨v, 0⟩] ++ q1) v r1 (by omega) (by omega) (by simp; omega)
    refine ⟨⟨v, 0⟩ :: (q1 ++ List.replicate r1.toNat ⟨v, 0⟩), ?_, ?_, ?_, fun h => absurd h hv, ?_⟩
    · have h := Ev.bind (f := fun k (b : List S76 × Int) => runs_run.j0 k b.1 v b.2) he1 hj
      rw [List.append_assoc, List.append_assoc, List.singleton_append] at h
      refine Ev.congr (fun k => ?_) h
      unfold runs_run.f
      rw [if_neg hv, if_pos (by omega), w64 (by omega) (by omega)]
    · simp; omega
    · intro out
      refine ⟨v, 1, .inl ⟨v0, by simp; omega, rfl, rfl, rfl⟩, ?_⟩
      have s1 := S1.q3 (out ++ List.replicate 1 v) v (fun _ => ⟨out, rfl⟩) (fun h => absurd rfl h)
      have s2 := says_singles v v0 v1 r1.toNat (out ++ List.replicate 1 v ++ List.replicate (n - 1 - r1).toNat v)
      have s := s1.append s2
      rw [List.append_assoc, List.append_assoc, List.replicate_append_replicate, List.replicate_append_replicate, show 1 + ((n - 1 - r1).toNat + r1.toNat) = n.toNat from by omega] at s
      exact s
    · intro _
      simp only [List.length_cons, List.length_append, List.length_replicate]
      omega
theorem rd_nat (l : List Int) (i : Nat) (h : i < l.length) : rd l (i : Int) = l[i] := by
  unfold rd
  rw [Int.toNat_natCast, List.getD_eq_getElem?_getD, List.getElem?_eq_getElem h]
  rfl

/-- Behind a round of 'Pack' the row that begins at x7 and ends at x8 is told. -/
theorem take_run (l : List Int) (x7 x8 : Nat) (h7 : x7 < x8) (h8 : x8 ≤ l.length) (hs : ∀ j (h : j < l.length), x7 ≤ j → j < x8 → l[j] = l[x7]'(by omega)) : l.take x8 = l.take x7 ++ List.replicate (x8 - x7) (l[x7]'(by omega)) := by
  refine List.ext_getElem (by simp; omega) (fun i h1 h2 => ?_)
  rw [List.getElem_take]
  by_cases hi : i < x7
  · rw [List.getElem_append_left (by simp; omega), List.getElem_take]
  · rw [List.getElem_append_right (by simp; omega), List.getElem_replicate]
    simp at h1
    exact hs i (by omega) (by omega) (by omega)

theorem pack_l2 (l : List Int) (hl : l.length ≤ 1000) (hg : ∀ x ∈ l, 0 ≤ x ∧ x ≤ 15) : ∀ (d x7 x8 : Nat) (x6 : List S76) (h7 : x7 < x8), l.length - x8 = d → (h8 : x8 ≤ l.length) → (∀ j (h : j < l.length), x7 ≤ j → j < x8 → l[j] = l[x7]'(by omega)) → Says x6 [] (l.take x7) → x6.length ≤ x7 →
    ∃ p, Ev (fun k => runs_Pack.l2 k l x6 (x7 : Int) (x8 : Int)) (p, 0) ∧ Says p [] l ∧ p.length ≤ l.length := by
  intro d
  induction d with
  | zero =>
    intro x7 x8 x6 h7 hd h8 hs hsay hx
    obtain rfl : x8 = l.length := by omega
    have hv := hg (l[x7]'(by omega)) (List.getElem_mem _)
    obtain ⟨q, he, hq, hsq, _, _⟩ := run_of x6 (l[x7]'(by omega)) ((l.length : Int) - x7) hv.1 hv.2 (by omega) (by omega) (by omega)
    have ht := take_run l x7 l.length h7 h8 hs
    rw [List.take_length] at ht
    refine ⟨x6 ++ q, ?_, ?_, by simp; omega⟩
    · refine Ev.step (f := fun k => (runs_run.f k x6 (l[x7]'(by omega)) ((l.length : Int) - x7)).bind fun t => runs_Pack.l1 k l t (l.length : Int)) (fun k => ?_) (Ev.bind he ?_)
      · simp only [runs_Pack.l2]
        rw [if_neg (by omega), if_pos (by omega), if_pos (by omega), rd_nat l x7 (by omega), w64 (by omega) (by omega)]
      · refine Ev.step (f := fun _ => some (x6 ++ q, 0)) (fun k => ?_) (Ev.now _)
        simp only [runs_Pack.l1]
        rw [if_neg (by omega)]
    · have h := hsay.append (hsq (l.take x7))
      rw [show ((l.length : Int) - x7).toNat = l.length - x7 from by omega, ← ht] at h
      exact h
  | succ d ih =>
    intro x7 x8 x6 h7 hd h8 hs hsay hx
    have hlt : x8 < l.length := by omega
    by_cases he8 : l[x8] = l[x7]'(by omega)
    · obtain ⟨p, hp, h2⟩ := ih x7 (x8 + 1) x6 (by omega) (by omega) (by omega) (fun j h ha hb => by
        by_cases hj : j = x8
        · subst hj; exact he8
        · exact hs j h ha (by omega)) hsay hx
      refine ⟨p, ?_, h2⟩
      refine Ev.step (fun k => ?_) hp
      simp only [runs_Pack.l2]
      rw [if_pos (by omega), if_pos (by omega), if_pos (by omega), if_pos (by omega), rd_nat l x7 (by omega), rd_nat l x8 hlt, if_pos he8, w64 (by omega) (by omega), cast1]
    · have hv := hg (l[x7]'(by omega)) (List.getElem_mem _)
      obtain ⟨q, he, hq, hsq, _, _⟩ := run_of x6 (l[x7]'(by omega)) ((x8 : Int) - x7) hv.1 hv.2 (by omega) (by omega) (by omega)
      have ht := take_run l x7 x8 h7 h8 hs
      have hsay2 := hsay.append (hsq (l.take x7))
      rw [show ((x8 : Int) - x7).toNat = x8 - x7 from by omega, ← ht] at hsay2
      obtain ⟨p, hp, h2⟩ := ih x8 (x8 + 1) (x6 ++ q) (by omega) (by omega) (by omega) (fun j h ha hb => by
        obtain rfl : j = x8 := by omega
        rfl) hsay2 (by simp; omega)
      refine ⟨p, ?_, h2⟩
      refine Ev.step (f := fun k => (runs_run.f k x6 (l[x7]'(by omega)) ((x8 : Int) - x7)).bind fun t => runs_Pack.l1 k l t (x8 : Int)) (fun k => ?_) (Ev.bind he ?_)
      · simp only [runs_Pack.l2]
        rw [if_pos (by omega), if_pos (by omega), if_pos (by omega), if_pos (by omega), rd_nat l x7 (by omega), rd_nat l x8 hlt, if_neg he8, w64 (by omega) (by omega)]
      · refine Ev.step (fun k => ?_) hp
        simp only [runs_Pack.l1]
        rw [if_pos (by omega), w64 (by omega) (by omega), cast1]

theorem pack_l1 (l : List Int) (hl : l.length ≤ 1000) (hg : ∀ x ∈ l, 0 ≤ x ∧ x ≤ 15) : ∃ p, Ev (fun k => runs_Pack.l1 k l [] 0) (p, 0) ∧ Says p [] l ∧ p.length ≤ l.length := by
  by_cases h0 : l.length = 0
  · obtain rfl : l = [] := List.eq_nil_of_length_eq_zero h0
    refine ⟨[], ?_, by simp [Says], by simp⟩
    refine Ev.step (f := fun _ => some ([], 0)) (fun k => ?_) (Ev.now _)
    simp only [runs_Pack.l1]
    rw [if_neg (by simp)]
  · obtain ⟨p, hp, h2⟩ := pack_l2 l hl hg (l.length - 1) 0 1 [] (by omega) rfl (by omega) (fun j h ha hb => by
      obtain rfl : j = 0 := by omega
      rfl) (by simp [Says]) (by simp)
    refine ⟨p, ?_, h2⟩
    refine Ev.step (fun k => ?_) hp
    simp only [runs_Pack.l1]
    rw [if_pos (by omega), w64 (by omega) (by omega)]
    rfl

/-- The first loop: are all lengths right? -/
theorem pack_l0 (l : List Int) (hl : l.length ≤ 1000000000) (r : List S76 × Int) (hr : Ev (fun k => if (l.length : Int) > 1000 then some (([] : List S76), 7) else runs_Pack.l1 k l [] 0) r) : ∀ (d i : Nat), l.length - i = d → i ≤ l.length → (∀ j (h : j < l.length), i ≤ j → 0 ≤ l[j] ∧ l[j] ≤ 15) → Ev (fun k => runs_Pack.l0 k l l (l.length : Int) (i : Int)) r := by
  intro d
  induction d with
  | zero =>
    intro i hd hi _
    refine Ev.step (fun k => ?_) hr
    simp only [runs_Pack.l0]
    rw [if_neg (by omega)]
  | succ d ih =>
    intro i hd hi hg
    have hlt : i < l.length := by omega
    have hv := hg i hlt (Nat.le_refl _)
    refine Ev.step (fun k => ?_) (ih (i + 1) (by omega) (by omega) (fun j h ha => hg j h (by omega)))
    simp only [runs_Pack.l0]
    rw [if_pos (by omega), if_pos (by omega), if_pos (by omega), rd_nat l i hlt, if_neg (by omega), if_neg (by omega), w64 (by omega) (by omega), cast1]

theorem pack_bad (l : List Int) (hl : l.length ≤ 1000000000) : ∀ (d i : Nat), l.length - i = d → i ≤ l.length → (∃ j, ∃ h : j < l.length, i ≤ j ∧ ¬ (0 ≤ l[j] ∧ l[j] ≤ 15)) → Ev (fun k => runs_Pack.l0 k l l (l.length : Int) (i : Int)) ([], 1) := by
  intro d
  induction d with
  | zero =>
    rintro i hd hi ⟨j, h, ha, _⟩
    omega
  | succ d ih =>
    rintro i hd hi ⟨j, h, ha, hb⟩
    have hlt : i < l.length := by omega
    by_cases hv : 0 ≤ l[i] ∧ l[i] ≤ 15
    · refine Ev.step (fun k => ?_) (ih (i + 1) (by omega) (by omega) ⟨j, h, ?_, hb⟩)
      · simp only [runs_Pack.l0]
        rw [if_pos (by omega), if_pos (by omega), if_pos (by omega), rd_nat l i hlt, if_neg (by omega), if_neg (by omega), w64 (by omega) (by omega), cast1]
      · by_cases hji : j = i
        · subst hji; exact absurd hv hb
        · omega
    · refine Ev.step (f := fun _ => some ([], 1)) (fun k => ?_) (Ev.now _)
      simp only [runs_Pack.l0]
      rw [if_pos (by omega), if_pos (by omega), if_pos (by omega), rd_nat l i hlt]
      by_cases h0 : l[i] < 0
      · rw [if_pos h0]
      · rw [if_neg h0, if_pos (by omega)]

theorem ints_l0 (l : List Int) (hl : l.length ≤ 1000000000) : ∀ (d i : Nat), l.length - i = d → i ≤ l.length → Ev (fun k => montagelaw10_ints.l0 k l l (l.length : Int) (i : Int)) true := by
  intro d
  induction d with
  | zero =>
    intro i hd hi
    refine Ev.step (f := fun _ => some true) (fun k => ?_) (Ev.now _)
    simp only [montagelaw10_ints.l0]
    rw [if_neg (by omega)]
  | succ d ih =>
    intro i hd hi
    refine Ev.step (fun k => ?_) (ih (i + 1) (by omega) (by omega))
    simp only [montagelaw10_ints.l0]
    rw [if_pos (by omega), if_pos (by omega), if_pos (by omega), if_pos (by omega), if_pos trivial, w64 (by omega) (by omega), cast1]

theorem ints_same (l : List Int) (hl : l.length ≤ 1000000000) : Ev (fun k => montagelaw10_ints.f k l l) true := by
  refine Ev.congr (fun k => ?_) (ints_l0 l hl l.length 0 rfl (by omega))
  unfold montagelaw10_ints.f
  rw [if_pos rfl]
  rfl

theorem awake_runs : montagelaw10_awake.f 40 = some true := by decide +kernel
theorem pack_const (v : Int) (v0 : 0 ≤ v) (v1 : v ≤ 15) (m : Nat) (hm : 1 ≤ m) (hm2 : m ≤ 1000) : ∀ (d x8 : Nat), m - x8 = d → 0 < x8 → x8 ≤ m →
    ∃ p, Ev (fun k => runs_Pack.l2 k (List.replicate m v) [] 0 (x8 : Int)) (p, 0) ∧ Says p [] (List.replicate m v) ∧ (v = 0 → (p.length : Int) ≤ 3 + (m : Int) / 138) ∧ (v ≠ 0 → (p.length : Int) ≤ 3 + (m : Int) / 3) := by
  intro d
  induction d with
  | zero =>
    intro x8 hd h0 h8
    obtain rfl : x8 = m := by omega
    obtain ⟨q, he, hq, hsq, q1, q2⟩ := run_of [] v (x8 : Int) v0 v1 (by omega) (by omega) (by simp)
    refine ⟨q, ?_, ?_, q1, q2⟩
    · refine Ev.step (f := fun k => (runs_run.f k [] v (x8 : Int)).bind fun t => runs_Pack.l1 k (List.replicate x8 v) t (x8 : Int)) (fun k => ?_) (Ev.bind he ?_)
      · have hr : rd (List.replicate x8 v) 0 = v := by
          have h := rd_nat (List.replicate x8 v) 0 (by simp; omega)
          rw [List.getElem_replicate] at h
          exact h
        simp only [runs_Pack.l2, List.length_replicate]
        rw [if_neg (by omega), if_pos (by omega), if_pos (by omega), hr, w64 (by omega) (by omega), Int.sub_zero]
      · refine Ev.step (f := fun _ => some (q, 0)) (fun k => ?_) (Ev.now _)
        simp only [runs_Pack.l1, List.length_replicate]
        rw [if_neg (by omega), List.nil_append]
    · have h := hsq []
      rw [List.nil_append, Int.toNat_natCast] at h
      exact h
  | succ d ih =>
    intro x8 hd h0 h8
    obtain ⟨p, hp, h2⟩ := ih (x8 + 1) (by omega) (by omega) (by omega)
    refine ⟨p, ?_, h2⟩
    refine Ev.step (fun k => ?_) hp
    have hr : rd (List.replicate m v) 0 = v := by
      have h := rd_nat (List.replicate m v) 0 (by simp; omega)
      rw [List.getElem_replicate] at h
      exact h
    have hr8 : rd (List.replicate m v) (x8 : Int) = v := by
      rw [rd_nat (List.replicate m v) x8 (by simp; omega), List.getElem_replicate]
    simp only [runs_Pack.l2, List.length_replicate]
    rw [if_pos (by omega), if_pos (by omega), if_pos (by omega), if_pos (by omega), hr, hr8, if_pos rfl, w64 (by omega) (by omega), cast1]

theorem pack_const_f (v : Int) (v0 : 0 ≤ v) (v1 : v ≤ 15) (m : Nat) (hm2 : m ≤ 1000) :
    ∃ p, Ev (fun k => runs_Pack.f k (List.replicate m v)) (p, 0) ∧ Says p [] (List.replicate m v) ∧ p.length ≤ 1000 ∧ (v = 0 → (p.length : Int) ≤ 3 + (m : Int) / 138) ∧ (v ≠ 0 → (p.length : Int) ≤ 3 + (m : Int) / 3) := by
  have key : ∃ p, Ev (fun k => runs_Pack.l1 k (List.replicate m v) [] 0) (p, 0) ∧ Says p [] (List.replicate m v) ∧ (v = 0 → (p.length : Int) ≤ 3 + (m : Int) / 138) ∧ (v ≠ 0 → (p.length : Int) ≤ 3 + (m : Int) / 3) := by
    by_cases h0 : m = 0
    · subst h0
      refine ⟨[], ?_, by simp [Says], fun _ => by simp, fun _ => by simp⟩
      refine Ev.step (f := fun _ => some ([], 0)) (fun k => ?_) (Ev.now _)
      simp only [runs_Pack.l1, List.length_replicate]
      rw [if_neg (by omega)]
    · obtain ⟨p, hp, h2⟩ := pack_const v v0 v1 m (by omega) hm2 (m - 1) 1 rfl (by omega) (by omega)
      refine ⟨p, ?_, h2⟩
      refine Ev.step (fun k => ?_) hp
      simp only [runs_Pack.l1, List.length_replicate]
      rw [if_pos (by omega), w64 (by omega) (by omega)]
      rfl
  obtain ⟨p, hp, hs, h1, h2⟩ := key
  refine ⟨p, ?_, hs, ?_, h1, h2⟩
  · refine Ev.congr (fun k => ?_) (pack_l0 (List.replicate m v) (by simp; omega) (p, 0) ?_ m 0 (by simp) (by omega) (fun j h _ => by rw [List.getElem_replicate]; exact ⟨v0, v1⟩))
    · rfl
    · refine Ev.congr (fun k => ?_) hp
      rw [if_neg (by simp; omega)]
  · by_cases h : v = 0
    · have := h1 h; omega
    · have := h2 h; omega

theorem set_next (v : Int) (j n : Nat) : (List.replicate j v ++ List.replicate (n + 1) (0 : Int)).set j v = List.replicate (j + 1) v ++ List.replicate n (0 : Int) := by
  rw [List.set_append_right _ _ (by simp), List.length_replicate, Nat.sub_self, List.replicate_succ, List.set_cons_zero, List.replicate_succ', List.append_assoc, List.singleton_append]

theorem tdiv_nat (a b : Nat) : Int.tdiv (a : Int) (b : Int) = ((a / b : Nat) : Int) := rfl

theorem law_loop (a0 : Int) (h0 : 0 ≤ a0) (m : Nat) (hm : m ≤ 1000) : ∀ (d j : Nat), m - j = d → j ≤ m → Ev (fun k => montagelaw10_RunsShort.l0 k a0 (m : Int) (List.replicate j (a0 % 16) ++ List.replicate (m - j) (0 : Int)) (m : Int) (j : Int)) true := by
  have ht : Int.tmod a0 16 = a0 % 16 := Int.tmod_eq_emod_of_nonneg h0
  intro d
  induction d with
  | zero =>
    intro j hd hj
    obtain rfl : j = m := by omega
    rw [Nat.sub_self, List.replicate_zero, List.append_nil]
    obtain ⟨p, hp, hs, hlen, h1, h2⟩ := pack_const_f (a0 % 16) (by omega) (by omega) j hm
    have hu : Ev (fun k => montageref10_Unpack.f k p) (List.replicate j (a0 % 16), 0) := refu p (by omega) p [] 0 _ rfl hs (by simp; omega)
    have hi := ints_same (List.replicate j (a0 % 16)) (by simp; omega)
    have fin : ∀ b : Bool, b = true → Ev (fun k => (montagelaw10_ints.f k (List.replicate j (a0 % 16)) (List.replicate j (a0 % 16))).bind fun t => if t = true then some b else some false) true := by
      intro b hb
      refine Ev.bind (f := fun _ t => if t = true then some b else some false) hi ?_
      refine Ev.congr (fun k => ?_) (Ev.now _)
      rw [if_pos rfl, hb]
    by_cases hz : a0 % 16 = 0
    · have f1 := fin (decide ((p.length : Int) ≤ wrap64 (3 + wrap64 (Int.tdiv (j : Int) 138)))) (by
        have e : Int.tdiv (j : Int) 138 = (j : Int) / 138 := Int.tdiv_eq_ediv_of_nonneg (by omega)
        rw [e, w64 (x := (j : Int) / 138) (by omega) (by omega), w64 (by omega) (by omega)]
        exact decide_eq_true (h1 hz))
      have f2 : Ev (fun k => (montageref10_Unpack.f k p).bind fun bt183 => (if a0 % 16 = 0 then (if (0 : Int) = 0 then (if bt183.2 = 0 then ((montagelaw10_ints.f k bt183.1 (List.replicate j (a0 % 16))).bind fun t187 => (if t187 = true then (some (decide ((p.length : Int) ≤ (wrap64 (3 + (wrap64 (Int.tdiv (j : Int) 138))))))) else (some false))) else (some false)) else (some false)) else some false)) true := by
        refine Ev.bind (f := fun k (bt183 : List Int × Int) => (if a0 % 16 = 0 then (if (0 : Int) = 0 then (if bt183.2 = 0 then ((montagelaw10_ints.f k bt183.1 (List.replicate j (a0 % 16))).bind fun t187 => (if t187 = true then (some (decide ((p.length : Int) ≤ (wrap64 (3 + (wrap64 (Int.tdiv (j : Int) 138))))))) else (some false))) else (some false)) else (some false)) else some false)) hu ?_
        refine Ev.congr (fun k => ?_) f1
        show (if a0 % 16 = 0 then (if (0 : Int) = 0 then (if (0 : Int) = 0 then _ else _) else _) else _) = _
        rw [if_pos hz, if_pos rfl, if_pos rfl]
      refine Ev.step (f := fun k => (runs_Pack.f k (List.replicate j (a0 % 16))).bind fun bt179 => (montageref10_Unpack.f k bt179.1).bind fun bt183 => (if a0 % 16 = 0 then (if bt179.2 = 0 then (if bt183.2 = 0 then ((montagelaw10_ints.f k bt183.1 (List.replicate j (a0 % 16))).bind fun t187 => (if t187 = true then (some (decide ((bt179.1.length : Int) ≤ (wrap64 (3 + (wrap64 (Int.tdiv (j : Int) 138))))))) else (some false))) else (some false)) else (some false)) else some false)) (fun k => ?_) (Ev.bind (f := fun k (bt179 : List S76 × Int) => (montageref10_Unpack.f k bt179.1).bind fun bt183 => (if a0 % 16 = 0 then (if bt179.2 = 0 then (if bt183.2 = 0 then ((montagelaw10_ints.f k bt183.1 (List.replicate j (a0 % 16))).bind fun t187 => (if t187 = true then (some (decide ((bt179.1.length : Int) ≤ (wrap64 (3 + (wrap64 (Int.tdiv (j : Int) 138))))))) else (some false))) else (some false)) else (some false)) else some false)) hp f2)
      simp only [montagelaw10_RunsShort.l0, ht]
      rw [if_neg (by omega)]
      simp only [if_pos hz]
    · have f1 := fin (decide ((p.length : Int) ≤ wrap64 (3 + wrap64 (Int.tdiv (j : Int) 3)))) (by
        have e : Int.tdiv (j : Int) 3 = (j : Int) / 3 := Int.tdiv_eq_ediv_of_nonneg (by omega)
        rw [e, w64 (x := (j : Int) / 3) (by omega) (by omega), w64 (by omega) (by omega)]
        exact decide_eq_true (h2 hz))
      have f2 : Ev (fun k => (montageref10_Unpack.f k p).bind fun bt183 => (if a0 % 16 = 0 then some false else (if (0 : Int) = 0 then (if bt183.2 = 0 then ((montagelaw10_ints.f k bt183.1 (List.replicate j (a0 % 16))).bind fun t187 => (if t187 = true then (some (decide ((p.length : Int) ≤ (wrap64 (3 + (wrap64 (Int.tdiv (j : Int) 3))))))) else (some false))) else (some false)) else (some false)))) true := by
        refine Ev.bind (f := fun k (bt183 : List Int × Int) => (if a0 % 16 = 0 then some false else (if (0 : Int) = 0 then (if bt183.2 = 0 then ((montagelaw10_ints.f k bt183.1 (List.replicate j (a0 % 16))).bind fun t187 => (if t187 = true then (some (decide ((p.length : Int) ≤ (wrap64 (3 + (wrap64 (Int.tdiv (j : Int) 3))))))) else (some false))) else (some false)) else (some false)))) hu ?_
        refine Ev.congr (fun k => ?_) f1
        show (if a0 % 16 = 0 then _ else (if (0 : Int) = 0 then (if (0 : Int) = 0 then _ else _) else _)) = _
        rw [if_neg hz, if_pos rfl, if_pos rfl]
      refine Ev.step (f := fun k => (runs_Pack.f k (List.replicate j (a0 % 16))).bind fun bt179 => (montageref10_Unpack.f k bt179.1).bind fun bt183 => (if a0 % 16 = 0 then some false else (if bt179.2 = 0 then (if bt183.2 = 0 then ((montagelaw10_ints.f k bt183.1 (List.replicate j (a0 % 16))).bind fun t187 => (if t187 = true then (some (decide ((bt179.1.length : Int) ≤ (wrap64 (3 + (wrap64 (Int.tdiv (j : Int) 3))))))) else (some false))) else (some false)) else (some false)))) (fun k => ?_) (Ev.bind (f := fun k (bt179 : List S76 × Int) => (montageref10_Unpack.f k bt179.1).bind fun bt183 => (if a0 % 16 = 0 then some false else (if bt179.2 = 0 then (if bt183.2 = 0 then ((montagelaw10_ints.f k bt183.1 (List.replicate j (a0 % 16))).bind fun t187 => (if t187 = true then (some (decide ((bt179.1.length : Int) ≤ (wrap64 (3 + (wrap64 (Int.tdiv (j : Int) 3))))))) else (some false))) else (some false)) else (some false)))) hp f2)
      simp only [montagelaw10_RunsShort.l0, ht]
      rw [if_neg (by omega)]
      simp only [if_neg hz]
  | succ d ih =>
    intro j hd hj
    have h := ih (j + 1) (by omega) (by omega)
    refine Ev.step (fun k => ?_) h
    have hset : (List.replicate j (a0 % 16) ++ List.replicate (m - j) (0 : Int)).set ((j : Int)).toNat (wrap64 (a0 % 16)) = List.replicate (j + 1) (a0 % 16) ++ List.replicate (m - (j + 1)) (0 : Int) := by
      rw [w64 (by omega) (by omega), Int.toNat_natCast, show m - j = (m - (j + 1)) + 1 from by omega, set_next]
    simp only [montagelaw10_RunsShort.l0, ht]
    rw [if_pos (by omega), if_pos (by omega), if_pos (by simp; omega), hset, w64 (by omega) (by omega), cast1]

theorem RunsShort : montagelaw10_RunsShort.Pure := by
  intro a0 a1 h0 h1
  have b0 : 0 ≤ a0 ∧ a0 ≤ 255 := by
    simp only [Lit.wf, IntKind.min, IntKind.max, IntKind.signed, IntKind.bits, Bool.and_eq_true, decide_eq_true_eq] at h0
    simp at h0
    omega
  have b1 : 0 ≤ a1 ∧ a1 ≤ 65535 := by
    simp only [Lit.wf, IntKind.min, IntKind.max, IntKind.signed, IntKind.bits, Bool.and_eq_true, decide_eq_true_eq] at h1
    simp at h1
    omega
  have hm : Int.tmod (wrap64 a1) 1001 = ((a1 % 1001).toNat : Int) := by
    rw [w64 (by omega) (by omega), Int.tmod_eq_emod_of_nonneg b1.1]
    omega
  refine Ev.rounds ?_
  refine Ev.congr (f := fun k => (montagelaw10_awake.f k).bind fun t => if t = true then montagelaw10_RunsShort.l0 k a0 ((a1 % 1001).toNat : Int) (List.replicate (a1 % 1001).toNat (0 : Int)) ((a1 % 1001).toNat : Int) 0 else some false) (fun k => ?_) ?_
  · unfold montagelaw10_RunsShort.f
    rw [hm]
    rw [if_pos (by omega), if_pos (by omega), Int.toNat_natCast, Option.bind_some, List.length_replicate]
  · refine Ev.bind (f := fun k t => if t = true then montagelaw10_RunsShort.l0 k a0 ((a1 % 1001).toNat : Int) (List.replicate (a1 % 1001).toNat (0 : Int)) ((a1 % 1001).toNat : Int) 0 else some false) (Ev.of montagelaw10_awake.mono awake_runs) ?_
    have h := law_loop a0 b0.1 (a1 % 1001).toNat (by omega) (a1 % 1001).toNat 0 (by omega) (by omega)
    refine Ev.congr (fun k => ?_) h
    show (if true = true then _ else _) = _
    rw [if_pos rfl]
    rfl

end Go.Proofs.Ytndcfccbicognaa.Pure
