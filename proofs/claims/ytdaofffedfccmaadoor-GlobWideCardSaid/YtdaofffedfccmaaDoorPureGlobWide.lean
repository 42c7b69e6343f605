/- This text proves the statement over numbers and lists that the functions of the law GlobWide come to. It has no conditions. -/
import Derived.Test.YtdaofffedfccmaaDoorXGlobFitsx8
import Derived.Test.YtdaofffedfccmaaDoorYGlob5
namespace Go.Proofs.YtdaofffedfccmaaDoor.Pure
open Go.RowKit Go.Proofs.YtdaofffedfccmaaDoor.XGlobFits Go.Proofs.YtdaofffedfccmaaDoorW.PrintWords Go.Proofs.YtdaofffedfccmaaDoorW.PrintLast Go.Proofs.YtdaofffedfccmaaDoorW.PrintMore
set_option linter.unusedVariables false
set_option linter.unusedSimpArgs false

open XGlob
theorem awake_ev : Ev (fun k => montagelaw37_awake.f k) true := Ev.of (fun k => montagelaw37_awake.mono k) (k := 30) (by kernel_rfl)
theorem ev_uniq {α : Type} {g : Nat → Option α} {a b : α} (h1 : Ev g a) (h2 : Ev g b) : a = b := by
  obtain ⟨K, h1⟩ := h1
  obtain ⟨L, h2⟩ := h2
  have e1 := h1 (K + L) (by omega)
  have e2 := h2 (K + L) (by omega)
  exact Option.some.inj (e1.symm.trans e2)
theorem mk_append (u v : List UInt8) : mk u ++ mk v = mk (u ++ v) := by
  rw [← mk_data (mk u ++ mk v)]
  congr 1
theorem size_append (x y : ByteArray) : (x ++ y).size = x.size + y.size := by
  rw [← mk_data x, ← mk_data y, mk_append, size_mk, List.length_append, size_mk, size_mk]
/-- One thing more ahead. -/
theorem mt_ahead {many many' : Nat → Bool} {fits fits' : Nat → Nat → Bool} {n m : Nat} (h1 : ∀ i, i < n → many' (i + 1) = many i) (h2 : ∀ i k, i < n → k < m → fits' (i + 1) k = fits i k) : ∀ {i k}, Mt many fits n m i k → Mt many' fits' (n + 1) m (i + 1) k := by
  intro i k h
  induction h with
  | done => exact .done
  | skip i k a b c ih => exact .skip _ k (by omega) (by rw [h1 i a]; exact b) ih
  | eat i k a b c d ih => exact .eat _ k (by omega) (by rw [h1 i a]; exact b) c ih
  | one i k a b c d e ih => exact .one _ k (by omega) (by rw [h1 i a]; exact b) c (by rw [h2 i k a c]; exact d) ih
/-- .. behind: a star. -/
theorem mt_behind {many many' : Nat → Bool} {fits fits' : Nat → Nat → Bool} {n m : Nat} (h1 : ∀ i, i < n → many' i = many i) (hn : many' n = true) (h2 : ∀ i k, i < n → k < m → fits' i k = fits i k) : ∀ {i k}, Mt many fits n m i k → Mt many' fits' (n + 1) m i k := by
  intro i k h
  induction h with
  | done => exact .skip n m (by omega) hn .done
  | skip i k a b c ih => exact .skip _ k (by omega) (by rw [h1 i a]; exact b) ih
  | eat i k a b c d ih => exact .eat _ k (by omega) (by rw [h1 i a]; exact b) c ih
  | one i k a b c d e ih => exact .one _ k (by omega) (by rw [h1 i a]; exact b) c (by rw [h2 i k a c]; exact d) ih
theorem partsB_ne (a : ByteArray) (h : partsB a ≠ []) : a.data.toList ≠ [] := by
  intro e
  apply h
  unfold partsB
  rw [if_pos e]
theorem rdOf_cons (x : ByteArray) (l : List ByteArray) (i : Nat) : rdOf ByteArray.empty (x :: l) ((i + 1 : Nat) : Int) = rdOf ByteArray.empty l (i : Int) := by
  rw [rdOf_nat, rdOf_nat]; rfl
theorem rdOf_snoc (x : ByteArray) (l : List ByteArray) (i : Nat) (hi : i < l.length) : rdOf ByteArray.empty (l ++ [x]) (i : Int) = rdOf ByteArray.empty l (i : Int) := by
  rw [rdOf_nat, rdOf_nat, List.getD_eq_getElem?_getD, List.getD_eq_getElem?_getD, List.getElem?_append_left hi]
theorem rdOf_last (x : ByteArray) (l : List ByteArray) : rdOf ByteArray.empty (l ++ [x]) (l.length : Int) = x := by
  rw [rdOf_nat, List.getD_eq_getElem?_getD, List.getElem?_append_right (Nat.le_refl _), Nat.sub_self]; rfl
def starB : ByteArray := mk [42, 42]
theorem parts_star : partsB starB = [starB] := by
  unfold starB
  rw [partsB_mk _ (by simp), sp_whole _ (by decide)]
  rfl
theorem parts_ahead (p : ByteArray) (h : p.data.toList ≠ []) : partsB ((⟨#[42, 42, 47]⟩ : ByteArray) ++ p) = starB :: partsB p := by
  rw [partsB_of p h]
  have e : ((⟨#[42, 42, 47]⟩ : ByteArray) ++ p) = mk ([42, 42] ++ 47 :: p.data.toList) := by
    rw [← mk_data p]
    exact mk_append [42, 42, 47] p.data.toList
  rw [e, partsB_mk _ (by simp), sp_cut _ _ (by decide)]
  rfl
theorem parts_behind (p : ByteArray) (h : p.data.toList ≠ []) : partsB (p ++ (⟨#[47, 42, 42]⟩ : ByteArray)) = partsB p ++ [starB] := by
  rw [partsB_of p h]
  have e : (p ++ (⟨#[47, 42, 42]⟩ : ByteArray)) = mk (p.data.toList ++ 47 :: [42, 42]) := by
    rw [← mk_data p]
    exact mk_append p.data.toList [47, 42, 42]
  rw [e, partsB_mk _ (by simp), sp_join, sp_whole [42, 42] (by decide), List.map_append]
  rfl
theorem wide_star (l : List ByteArray) (i : Nat) (h : rdOf ByteArray.empty l (i : Int) = starB) : wideB l i = true := by
  rw [wideB_iff, h]
  exact toList_mk _
theorem wide_eq (l l' : List ByteArray) (i j : Nat) (h : rdOf ByteArray.empty l (i : Int) = rdOf ByteArray.empty l' (j : Int)) : wideB l i = wideB l' j := by
  unfold wideB
  rw [h]
theorem rs_eq {l l' : List ByteArray} {rs rs' : List (List S124 × Bool)} (h : BothL l rs) (h' : BothL l' rs') {i j : Nat} (hi : i < l.length) (hj : j < l'.length) (e : rdOf ByteArray.empty l (i : Int) = rdOf ByteArray.empty l' (j : Int)) : rsAt rs i = rsAt rs' j := by
  have h1 := (h.2 i hi).pcs
  have h2 := (h'.2 j hj).pcs
  rw [e] at h1
  exact ev_uniq h1 h2
theorem GlobWide : montagelaw37_GlobWide.Pure := by
  intro p s _ _
  refine Ev.rounds (r := true) ?_
  unfold montagelaw37_GlobWide.f
  refine Ev.bind (f := fun k (t229 : Bool) => (if t229 = true then (if (p.size : Int) > 60 then (montagelaw37_GlobWide.j0 k p s true) else (montagelaw37_GlobWide.j0 k p s (decide ((s.size : Int) > 60)))) else (some false))) awake_ev ?_
  by_cases hbig : 60 < p.size ∨ 60 < s.size
  · refine Ev.congr (f := fun k => montagelaw37_GlobWide.j0 k p s true) (fun k => ?_) (Ev.step (f := fun _ => some true) (fun k => ?_) (Ev.now _))
    · rw [if_pos rfl]
      by_cases h : (p.size : Int) > 60
      · rw [if_pos h]
      · rw [if_neg h, decide_eq_true (by omega)]
    · simp only [montagelaw37_GlobWide.j0]
      rw [if_pos trivial]
  · -- '**' alone
    obtain ⟨rs0, b0, g1, g2, g3, g4, g5⟩ := glob_all starB (by decide)
    have hb0 : b0 = true := by
      rw [g4, parts_star]
      refine ⟨Nat.le_refl _, by simp, fun j hj => ?_⟩
      obtain rfl : j = 0 := by simpa using hj
      unfold okAt
      rw [wide_star _ 0 rfl]
      rfl
    have s0 : Ev (fun k => glob_Fits.f k (⟨#[42, 42]⟩ : ByteArray) s) true := by
      have h := (g5 s (by omega)).1
      rw [hb0, parts_star, Bool.true_and] at h
      have e : fitsB [starB] (partsB s) (rs0.map (·.1)) = true := by
        refine mtAll_iff.2 ?_
        exact Mt.star_of (by simp) (wide_star _ 0 rfl) (Nat.zero_le _) (Nat.le_refl _) .done
      rw [e] at h
      exact h
    obtain ⟨rs, b, h1, h2, h3, h4, h5⟩ := glob_all p (by omega)
    have s1 := (h5 s (by omega)).1
    -- the rest
    have rest : Ev (fun k => (glob_Fits.f k p s).bind fun t231 => (if t231 = true then (if (p.size : Int) > 50 then (some true) else (if 3 + p.size ≤ 9223372036854775807 then ((glob_Check.f k ((⟨#[42, 42, 47]⟩ : ByteArray) ++ p)).bind fun t232 => (if t232 = 0 then ((glob_Fits.f k ((⟨#[42, 42, 47]⟩ : ByteArray) ++ p) s).bind fun t233 => (if t233 = true then (if p.size + 3 ≤ 9223372036854775807 then ((glob_Fits.f k (p ++ (⟨#[47, 42, 42]⟩ : ByteArray)) s).bind fun t234 => (if t234 = true then (if 2 + s.size ≤ 9223372036854775807 then ((glob_Fits.f k ((⟨#[42, 42, 47]⟩ : ByteArray) ++ p) ((⟨#[122, 47]⟩ : ByteArray) ++ s)).bind fun t235 => ((montageref37_Fits.f k ((⟨#[42, 42, 47]⟩ : ByteArray) ++ p) ((⟨#[122, 47]⟩ : ByteArray) ++ s)).bind fun t236 => (some (t235 == t236)))) else (none)) else (some false))) else (none)) else (some false))) else (some true))) else (none))) else (some true))) true := by
      refine Ev.bind (f := fun k (t231 : Bool) => (if t231 = true then (if (p.size : Int) > 50 then (some true) else (if 3 + p.size ≤ 9223372036854775807 then ((glob_Check.f k ((⟨#[42, 42, 47]⟩ : ByteArray) ++ p)).bind fun t232 => (if t232 = 0 then ((glob_Fits.f k ((⟨#[42, 42, 47]⟩ : ByteArray) ++ p) s).bind fun t233 => (if t233 = true then (if p.size + 3 ≤ 9223372036854775807 then ((glob_Fits.f k (p ++ (⟨#[47, 42, 42]⟩ : ByteArray)) s).bind fun t234 => (if t234 = true then (if 2 + s.size ≤ 9223372036854775807 then ((glob_Fits.f k ((⟨#[42, 42, 47]⟩ : ByteArray) ++ p) ((⟨#[122, 47]⟩ : ByteArray) ++ s)).bind fun t235 => ((montageref37_Fits.f k ((⟨#[42, 42, 47]⟩ : ByteArray) ++ p) ((⟨#[122, 47]⟩ : ByteArray) ++ s)).bind fun t236 => (some (t235 == t236)))) else (none)) else (some false))) else (none)) else (some false))) else (some true))) else (none))) else (some true))) s1 ?_
      cases hfit : (b && fitsB (partsB p) (partsB s) (rs.map (·.1))) with
      | false =>
        refine Ev.congr (fun k => ?_) (Ev.now _)
        rw [if_neg (by simp)]
      | true =>
        rw [Bool.and_eq_true] at hfit
        obtain ⟨hb, hft⟩ := hfit
        have hfine := h4.1 hb
        have hpn : p.data.toList ≠ [] := partsB_ne p (fun e => by have h1 := hfine.1; rw [e] at h1; simp at h1)
        have hmt := mtAll_iff.1 hft
        by_cases hlong : (p.size : Int) > 50
        · refine Ev.congr (fun k => ?_) (Ev.now _)
          rw [if_pos rfl, if_pos hlong]
        · have z1 : ((⟨#[42, 42, 47]⟩ : ByteArray) ++ p).size = 3 + p.size := size_append _ _
          have z2 : (p ++ (⟨#[47, 42, 42]⟩ : ByteArray)).size = p.size + 3 := size_append _ _
          have z3 : ((⟨#[122, 47]⟩ : ByteArray) ++ s).size = 2 + s.size := size_append _ _
          have pa := parts_ahead p hpn
          have pb := parts_behind p hpn
          obtain ⟨rs1, b1, a1, a2, a3, a4, a5⟩ := glob_all ((⟨#[42, 42, 47]⟩ : ByteArray) ++ p) (by omega)
          obtain ⟨rs2, b2, c1, c2, c3, c4, c5⟩ := glob_all (p ++ (⟨#[47, 42, 42]⟩ : ByteArray)) (by omega)
          refine Ev.congr (f := fun k => (glob_Check.f k ((⟨#[42, 42, 47]⟩ : ByteArray) ++ p)).bind fun t232 => (if t232 = 0 then ((glob_Fits.f k ((⟨#[42, 42, 47]⟩ : ByteArray) ++ p) s).bind fun t233 => (if t233 = true then (if p.size + 3 ≤ 9223372036854775807 then ((glob_Fits.f k (p ++ (⟨#[47, 42, 42]⟩ : ByteArray)) s).bind fun t234 => (if t234 = true then (if 2 + s.size ≤ 9223372036854775807 then ((glob_Fits.f k ((⟨#[42, 42, 47]⟩ : ByteArray) ++ p) ((⟨#[122, 47]⟩ : ByteArray) ++ s)).bind fun t235 => ((montageref37_Fits.f k ((⟨#[42, 42, 47]⟩ : ByteArray) ++ p) ((⟨#[122, 47]⟩ : ByteArray) ++ s)).bind fun t236 => (some (t235 == t236)))) else (none)) else (some false))) else (none)) else (some false))) else (some true))) (fun k => ?_) ?_
          · rw [if_pos rfl, if_neg hlong, if_pos (by omega)]
          · refine Ev.bind (f := fun k (t232 : Int) => (if t232 = 0 then ((glob_Fits.f k ((⟨#[42, 42, 47]⟩ : ByteArray) ++ p) s).bind fun t233 => (if t233 = true then (if p.size + 3 ≤ 9223372036854775807 then ((glob_Fits.f k (p ++ (⟨#[47, 42, 42]⟩ : ByteArray)) s).bind fun t234 => (if t234 = true then (if 2 + s.size ≤ 9223372036854775807 then ((glob_Fits.f k ((⟨#[42, 42, 47]⟩ : ByteArray) ++ p) ((⟨#[122, 47]⟩ : ByteArray) ++ s)).bind fun t235 => ((montageref37_Fits.f k ((⟨#[42, 42, 47]⟩ : ByteArray) ++ p) ((⟨#[122, 47]⟩ : ByteArray) ++ s)).bind fun t236 => (some (t235 == t236)))) else (none)) else (some false))) else (none)) else (some false))) else (some true))) a2 ?_
            cases hb1 : b1 with
            | false =>
              refine Ev.congr (fun k => ?_) (Ev.now _)
              rw [if_neg (by simp)]
            | true =>
              have f1 := a4.1 hb1
              rw [pa] at a1 f1
              have hlen1 : (starB :: partsB p).length = (partsB p).length + 1 := rfl
              have hlen2 : (partsB p ++ [starB]).length = (partsB p).length + 1 := by simp
              -- ahead
              have m1 : fitsB (starB :: partsB p) (partsB s) (rs1.map (·.1)) = true := by
                refine mtAll_iff.2 ?_
                rw [hlen1]
                refine .skip 0 0 (by omega) (wide_star _ 0 rfl) (mt_ahead (fun i hi => ?_) (fun i k hi hk => ?_) hmt)
                · exact wide_eq _ _ _ _ (rdOf_cons _ _ _)
                · show pfitB (psAt (rs1.map (·.1)) (i + 1)) _ = pfitB (psAt (rs.map (·.1)) i) _
                  rw [psAt_map, psAt_map, rs_eq a1 h1 (by rw [hlen1]; omega) hi (rdOf_cons _ _ _)]
              -- behind
              rw [pb] at c1 c4
              have hb2 : b2 = true := by
                rw [c4]
                refine ⟨by rw [hlen2]; omega, by have := f1.2.1; rw [hlen1] at this; rw [hlen2]; exact this, fun j hj => ?_⟩
                by_cases e : j < (partsB p).length
                · have := hfine.2.2 j e
                  unfold okAt at this ⊢
                  rw [wide_eq _ _ _ _ (rdOf_snoc starB (partsB p) j e), rs_eq c1 h1 hj e (rdOf_snoc starB (partsB p) j e)]
                  exact this
                · obtain rfl : j = (partsB p).length := by rw [hlen2] at hj; omega
                  unfold okAt
                  rw [wide_star _ _ (rdOf_last starB (partsB p))]
                  rfl
              have m2 : fitsB (partsB p ++ [starB]) (partsB s) (rs2.map (·.1)) = true := by
                refine mtAll_iff.2 ?_
                rw [hlen2]
                refine mt_behind (fun i hi => ?_) ?_ (fun i k hi hk => ?_) hmt
                · exact wide_eq _ _ _ _ (rdOf_snoc _ _ _ hi)
                · exact wide_star _ _ (rdOf_last starB (partsB p))
                · show pfitB (psAt (rs2.map (·.1)) i) _ = pfitB (psAt (rs.map (·.1)) i) _
                  rw [psAt_map, psAt_map, rs_eq c1 h1 (by rw [hlen2]; omega) hi (rdOf_snoc _ _ _ hi)]
              have t1 := (a5 s (by omega)).1
              rw [hb1, Bool.true_and, pa, m1] at t1
              have t2 := (c5 s (by omega)).1
              rw [hb2, Bool.true_and, pb, m2] at t2
              have t3 := a5 ((⟨#[122, 47]⟩ : ByteArray) ++ s) (by omega)
              generalize (b1 && fitsB (partsB ((⟨#[42, 42, 47]⟩ : ByteArray) ++ p)) (partsB ((⟨#[122, 47]⟩ : ByteArray) ++ s)) (rs1.map (·.1))) = v at t3
              refine Ev.congr (f := fun k => (glob_Fits.f k ((⟨#[42, 42, 47]⟩ : ByteArray) ++ p) s).bind fun t233 => (if t233 = true then (if p.size + 3 ≤ 9223372036854775807 then ((glob_Fits.f k (p ++ (⟨#[47, 42, 42]⟩ : ByteArray)) s).bind fun t234 => (if t234 = true then (if 2 + s.size ≤ 9223372036854775807 then ((glob_Fits.f k ((⟨#[42, 42, 47]⟩ : ByteArray) ++ p) ((⟨#[122, 47]⟩ : ByteArray) ++ s)).bind fun t235 => ((montageref37_Fits.f k ((⟨#[42, 42, 47]⟩ : ByteArray) ++ p) ((⟨#[122, 47]⟩ : ByteArray) ++ s)).bind fun t236 => (some (t235 == t236)))) else (none)) else (some false))) else (none)) else (some false))) (fun k => ?_) ?_
              · rw [if_pos (by simp)]
              · refine Ev.bind (f := fun k (t233 : Bool) => (if t233 = true then (if p.size + 3 ≤ 9223372036854775807 then ((glob_Fits.f k (p ++ (⟨#[47, 42, 42]⟩ : ByteArray)) s).bind fun t234 => (if t234 = true then (if 2 + s.size ≤ 9223372036854775807 then ((glob_Fits.f k ((⟨#[42, 42, 47]⟩ : ByteArray) ++ p) ((⟨#[122, 47]⟩ : ByteArray) ++ s)).bind fun t235 => ((montageref37_Fits.f k ((⟨#[42, 42, 47]⟩ : ByteArray) ++ p) ((⟨#[122, 47]⟩ : ByteArray) ++ s)).bind fun t236 => (some (t235 == t236)))) else (none)) else (some false))) else (none)) else (some false))) t1 ?_
                refine Ev.congr (f := fun k => (glob_Fits.f k (p ++ (⟨#[47, 42, 42]⟩ : ByteArray)) s).bind fun t234 => (if t234 = true then (if 2 + s.size ≤ 9223372036854775807 then ((glob_Fits.f k ((⟨#[42, 42, 47]⟩ : ByteArray) ++ p) ((⟨#[122, 47]⟩ : ByteArray) ++ s)).bind fun t235 => ((montageref37_Fits.f k ((⟨#[42, 42, 47]⟩ : ByteArray) ++ p) ((⟨#[122, 47]⟩ : ByteArray) ++ s)).bind fun t236 => (some (t235 == t236)))) else (none)) else (some false))) (fun k => ?_) ?_
                · rw [if_pos rfl, if_pos (by omega)]
                · refine Ev.bind (f := fun k (t234 : Bool) => (if t234 = true then (if 2 + s.size ≤ 9223372036854775807 then ((glob_Fits.f k ((⟨#[42, 42, 47]⟩ : ByteArray) ++ p) ((⟨#[122, 47]⟩ : ByteArray) ++ s)).bind fun t235 => ((montageref37_Fits.f k ((⟨#[42, 42, 47]⟩ : ByteArray) ++ p) ((⟨#[122, 47]⟩ : ByteArray) ++ s)).bind fun t236 => (some (t235 == t236)))) else (none)) else (some false))) t2 ?_
                  refine Ev.congr (f := fun k => (glob_Fits.f k ((⟨#[42, 42, 47]⟩ : ByteArray) ++ p) ((⟨#[122, 47]⟩ : ByteArray) ++ s)).bind fun t235 => ((montageref37_Fits.f k ((⟨#[42, 42, 47]⟩ : ByteArray) ++ p) ((⟨#[122, 47]⟩ : ByteArray) ++ s)).bind fun t236 => (some (t235 == t236)))) (fun k => ?_) ?_
                  · rw [if_pos rfl, if_pos (by omega)]
                  · refine Ev.bind (f := fun k t235 => ((montageref37_Fits.f k ((⟨#[42, 42, 47]⟩ : ByteArray) ++ p) ((⟨#[122, 47]⟩ : ByteArray) ++ s)).bind fun t236 => (some (t235 == t236)))) t3.1 ?_
                    refine Ev.bind (f := fun k t236 => (some (v == t236))) t3.2 ?_
                    rw [beq_self_eq_true]
                    exact Ev.now _
    refine Ev.congr (f := fun k => montagelaw37_GlobWide.j0 k p s false) (fun k => ?_) (Ev.step (f := fun k => (glob_Fits.f k (⟨#[42, 42]⟩ : ByteArray) s).bind fun t230 => (if t230 = true then ((glob_Fits.f k p s).bind fun t231 => (if t231 = true then (if (p.size : Int) > 50 then (some true) else (if 3 + p.size ≤ 9223372036854775807 then ((glob_Check.f k ((⟨#[42, 42, 47]⟩ : ByteArray) ++ p)).bind fun t232 => (if t232 = 0 then ((glob_Fits.f k ((⟨#[42, 42, 47]⟩ : ByteArray) ++ p) s).bind fun t233 => (if t233 = true then (if p.size + 3 ≤ 9223372036854775807 then ((glob_Fits.f k (p ++ (⟨#[47, 42, 42]⟩ : ByteArray)) s).bind fun t234 => (if t234 = true then (if 2 + s.size ≤ 9223372036854775807 then ((glob_Fits.f k ((⟨#[42, 42, 47]⟩ : ByteArray) ++ p) ((⟨#[122, 47]⟩ : ByteArray) ++ s)).bind fun t235 => ((montageref37_Fits.f k ((⟨#[42, 42, 47]⟩ : ByteArray) ++ p) ((⟨#[122, 47]⟩ : ByteArray) ++ s)).bind fun t236 => (some (t235 == t236)))) else (none)) else (some false))) else (none)) else (some false))) else (some true))) else (none))) else (some true))) else (some false))) (fun k => ?_) ?_)
    · rw [if_pos rfl, if_neg (by omega), decide_eq_false (by omega)]
    · simp only [montagelaw37_GlobWide.j0]
      rw [if_neg (by simp)]
    · refine Ev.bind s0 ?_
      refine Ev.congr (fun k => ?_) rest
      rw [if_pos rfl]

end Go.Proofs.YtdaofffedfccmaaDoor.Pure
