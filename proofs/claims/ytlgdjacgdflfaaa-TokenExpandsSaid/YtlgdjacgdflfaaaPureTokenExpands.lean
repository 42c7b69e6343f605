/- This text proves the statement over numbers and lists that the functions of the law TokenExpands come to. It has no conditions. -/
import Derived.Test.YtlgdjacgdflfaaaXTokenExpandsx4
namespace Go.Proofs.Ytlgdjacgdflfaaa.Pure
open Go.RowKit Go.Proofs.Ytlgdjacgdflfaaa.XTokenExpands Go.Proofs.YtlgdjacgdflfaaaW.PrintWords Go.Proofs.YtlgdjacgdflfaaaW.PrintLast Go.Proofs.YtlgdjacgdflfaaaW.PrintMore
set_option linter.unusedVariables false
set_option linter.unusedSimpArgs false

theorem cast1 (i : Nat) : ((i + 1 : Nat) : Int) = (i : Int) + 1 := by omega

theorem w64 {x : Int} (h0 : -9223372036854775808 ≤ x) (h1 : x < 9223372036854775808) : wrap64 x = x := by unfold wrap64; omega

/-- Whether a token may be: both texts say the same. -/
theorem may_both (b n d : Int) : ∃ ok : Bool, token_May.f b n d = some ok ∧ montageref07_May.f b n d = some ok ∧ (ok = true → (n = 0 ∧ d = 0) ∨ (3 ≤ n ∧ n ≤ 258 ∧ 1 ≤ d ∧ d ≤ 32768)) := by
  unfold token_May.f montageref07_May.f token_within.f
  by_cases h0 : n = 0
  · rw [if_pos h0, if_pos h0]
    exact ⟨_, rfl, rfl, fun h => .inl ⟨h0, by simpa using h⟩⟩
  · rw [if_neg h0, if_neg h0]
    by_cases h3 : n ≥ 3
    · rw [if_pos h3, if_pos h3, Option.bind_some]
      by_cases h258 : n ≤ 258
      · rw [decide_eq_true h258, if_pos rfl, if_pos h258]
        by_cases h1 : d ≥ 1
        · rw [if_pos h1, if_pos h1, Option.bind_some]
          by_cases h2 : d ≤ 32768
          · rw [decide_eq_true h2, if_pos rfl, if_pos h2]
            exact ⟨_, rfl, rfl, fun _ => .inr ⟨by omega, by omega, by omega, by omega⟩⟩
          · rw [decide_eq_false h2, if_neg (by simp), if_neg h2]
            exact ⟨_, rfl, rfl, fun h => absurd h (by simp)⟩
        · rw [if_neg h1, if_neg h1, Option.bind_some, if_neg (by simp)]
          exact ⟨_, rfl, rfl, fun h => absurd h (by simp)⟩
      · rw [decide_eq_false h258, if_neg (by simp), if_neg h258]
        exact ⟨_, rfl, rfl, fun h => absurd h (by simp)⟩
    · rw [if_neg h3, if_neg h3, Option.bind_some, if_neg (by simp)]
      exact ⟨_, rfl, rfl, fun h => absurd h (by simp)⟩

/-- So many numbers more, each the one that stands so far back. -/
def cpy (back : Int) : Nat → List Int → List Int
  | 0, out => out
  | d + 1, out => cpy back d (out ++ [rd out ((out.length : Int) - back)])

theorem cpy_len (back : Int) : ∀ (d : Nat) (out : List Int), (cpy back d out).length = out.length + d
  | 0, _ => rfl
  | d + 1, out => by rw [cpy, cpy_len back d]; simp; omega

theorem prog_l1 (most : Int) (l : List S30) (i : Int) (i0 : 0 ≤ i) (i1 : i < 1000) (n back from_ : Int) (hn : n ≤ 258) (hb : 1 ≤ back) (r : ByteArray × Int) : ∀ (d : Nat) (out : List Int) (j : Int), 0 ≤ j → n - j = d → (out.length : Int) = from_ + back + j → 0 ≤ from_ → out.length + d ≤ 1000000 →
    Ev (fun k => token_Expand.l0 k most (cpy back d out) l (l.length : Int) (i + 1)) r → Ev (fun k => token_Expand.l1 k most out from_ l (l.length : Int) i n j) r
  | 0, out, j, h0, hd, hlen, hf, hl, h => by
    refine Ev.step (fun k => ?_) h
    simp only [token_Expand.l1]
    rw [if_neg (by omega), w64 (by omega) (by omega)]
    rfl
  | d + 1, out, j, h0, hd, hlen, hf, hl, h => by
    refine Ev.step (fun k => ?_) (prog_l1 most l i i0 i1 n back from_ hn hb r d (out ++ [rd out ((out.length : Int) - back)]) (j + 1) (by omega) (by omega) (by simp; omega) hf (by simp; omega) h)
    simp only [token_Expand.l1]
    have e : wrap64 (from_ + j) = (out.length : Int) - back := by rw [w64 (by omega) (by omega)]; omega
    rw [if_pos (by omega), e, if_pos (by omega), if_pos (by omega), if_pos (by omega), w64 (by omega) (by omega)]

theorem ref_l1 (most : Int) (l : List S30) (i : Int) (i0 : 0 ≤ i) (i1 : i < 1000) (n back : Int) (hn : n ≤ 258) (hb : 1 ≤ back) (b m : Int) (r : ByteArray × Int) : ∀ (d : Nat) (out : List Int) (j : Int), 0 ≤ j → n - j = d → back ≤ out.length → out.length + d ≤ 1000000 →
    Ev (fun k => montageref07_Expand.l0 k l most (cpy back d out) (i + 1)) r → Ev (fun k => montageref07_Expand.l1 k l most out i n j b m back) r
  | 0, out, j, h0, hd, hf, hl, h => by
    refine Ev.step (fun k => ?_) h
    simp only [montageref07_Expand.l1]
    rw [if_neg (by omega), w64 (by omega) (by omega)]
    rfl
  | d + 1, out, j, h0, hd, hf, hl, h => by
    refine Ev.step (fun k => ?_) (ref_l1 most l i i0 i1 n back hn hb b m r d (out ++ [rd out ((out.length : Int) - back)]) (j + 1) (by omega) (by omega) (by simp; omega) (by simp; omega) h)
    simp only [montageref07_Expand.l1]
    have e : wrap64 ((out.length : Int) - back) = (out.length : Int) - back := w64 (by omega) (by omega)
    rw [if_pos (by omega), e, if_pos (by omega), if_pos (by omega), if_pos (by omega), w64 (by omega) (by omega)]

/-- Both texts come to the same answer, from any place on. -/
theorem expand_both (l : List S30) (hl : l.length ≤ 60) (most : Int) (m0 : -9223372036854775808 ≤ most) (m1 : most < 9223372036854775808) : ∀ (d i : Nat) (out : List Int), l.length - i = d → i ≤ l.length → out.length ≤ 258 * i →
    ∃ r, Ev (fun k => token_Expand.l0 k most out l (l.length : Int) (i : Int)) r ∧ Ev (fun k => montageref07_Expand.l0 k l most out (i : Int)) r := by
  intro d
  induction d with
  | zero =>
    intro i out hd hi ho
    refine ⟨(strOfNums out, 0), Ev.step (f := fun _ => some (strOfNums out, 0)) (fun k => ?_) (Ev.now _), Ev.step (f := fun _ => some (strOfNums out, 0)) (fun k => ?_) (Ev.now _)⟩
    · simp only [token_Expand.l0]
      rw [if_neg (by omega)]
    · simp only [montageref07_Expand.l0]
      rw [if_neg (by omega)]
  | succ d ih =>
    intro i out hd hi ho
    have hlt : i < l.length := by omega
    obtain ⟨b, n, back, hrow⟩ : ∃ b n back, rd_T30 l (i : Int) = ⟨b, n, back⟩ := ⟨_, _, _, rfl⟩
    obtain ⟨ok, e1, e2, hok⟩ := may_both b n back
    have p0 : ∀ k, token_Expand.l0 (k + 1) most out l (l.length : Int) (i : Int) = (if ok = true then (if back > (out.length : Int) then (some ((⟨#[]⟩ : ByteArray), 2)) else (if (wrap64 ((out.length : Int) + (mx n 1))) > most then (some ((⟨#[]⟩ : ByteArray), 7)) else (if n = 0 then (if out.length < 140737488355328 then (token_Expand.l0 k most (out ++ [b]) l (l.length : Int) (wrap64 ((i : Int) + 1))) else (none)) else (token_Expand.l1 k most out (wrap64 ((out.length : Int) - back)) l (l.length : Int) (i : Int) n 0)))) else (some ((⟨#[]⟩ : ByteArray), 1))) := by
      intro k
      simp only [token_Expand.l0]
      rw [if_pos (by omega), if_pos (by omega), if_pos (by omega), hrow]
      show ((token_May.f b n back).bind fun t106 => _) = _
      rw [e1, Option.bind_some]
    have q0 : ∀ k, montageref07_Expand.l0 (k + 1) l most out (i : Int) = (if ok = true then (if back > (out.length : Int) then (some ((⟨#[]⟩ : ByteArray), 2)) else (if n = 0 then (montageref07_Expand.j1 k l most out (i : Int) 1 b n back) else (montageref07_Expand.j1 k l most out (i : Int) n b n back))) else (some ((⟨#[]⟩ : ByteArray), 1))) := by
      intro k
      simp only [montageref07_Expand.l0]
      rw [if_pos (by omega), if_pos (by omega), hrow]
      show ((montageref07_May.f b n back).bind fun t138 => _) = _
      rw [e2, Option.bind_some]
    cases ok with
    | false =>
      refine ⟨(⟨#[]⟩, 1), Ev.step (f := fun _ => some (⟨#[]⟩, 1)) (fun k => ?_) (Ev.now _), Ev.step (f := fun _ => some (⟨#[]⟩, 1)) (fun k => ?_) (Ev.now _)⟩
      · show token_Expand.l0 (k + 1) most out l (l.length : Int) (i : Int) = _
        rw [p0, if_neg (by simp)]
      · show montageref07_Expand.l0 (k + 1) l most out (i : Int) = _
        rw [q0, if_neg (by simp)]
    | true =>
      have hr := hok rfl
      by_cases hback : back > (out.length : Int)
      · refine ⟨(⟨#[]⟩, 2), Ev.step (f := fun _ => some (⟨#[]⟩, 2)) (fun k => ?_) (Ev.now _), Ev.step (f := fun _ => some (⟨#[]⟩, 2)) (fun k => ?_) (Ev.now _)⟩
        · show token_Expand.l0 (k + 1) most out l (l.length : Int) (i : Int) = _
          rw [p0, if_pos rfl, if_pos hback]
        · show montageref07_Expand.l0 (k + 1) l most out (i : Int) = _
          rw [q0, if_pos rfl, if_pos hback]
      · -- how many bytes: n, or one
        obtain ⟨m, hm, hm1, hm2⟩ : ∃ m, mx n 1 = m ∧ (n = 0 → m = 1) ∧ (n ≠ 0 → m = n) := by
          refine ⟨_, rfl, fun h => ?_, fun h => ?_⟩
          · unfold mx; rw [if_pos (by omega)]
          · unfold mx; rw [if_neg (by omega)]
        have hmb : 1 ≤ m ∧ m ≤ 258 := by
          by_cases h : n = 0
          · have := hm1 h; omega
          · have := hm2 h; omega
        have hq : ∀ r, Ev (fun k => montageref07_Expand.j1 k l most out (i : Int) m b n back) r → Ev (fun k => montageref07_Expand.l0 k l most out (i : Int)) r := by
          intro r h
          refine Ev.step (fun k => ?_) h
          show montageref07_Expand.l0 (k + 1) l most out (i : Int) = _
          rw [q0, if_pos rfl, if_neg hback]
          by_cases h0 : n = 0
          · rw [if_pos h0, hm1 h0]
          · rw [if_neg h0, hm2 h0]
        have hsum : wrap64 ((out.length : Int) + mx n 1) = (out.length : Int) + m := by rw [hm, w64 (by omega) (by omega)]
        by_cases hlim : (out.length : Int) + m > most
        · refine ⟨(⟨#[]⟩, 7), Ev.step (f := fun _ => some (⟨#[]⟩, 7)) (fun k => ?_) (Ev.now _), hq _ ?_⟩
          · show token_Expand.l0 (k + 1) most out l (l.length : Int) (i : Int) = _
            rw [p0, if_pos rfl, if_neg hback, hsum, if_pos hlim]
          · have h2 : Ev (fun k => montageref07_Expand.j2 k l most out (i : Int) m true b n back) (⟨#[]⟩, 7) := by
              refine Ev.step (f := fun _ => some (⟨#[]⟩, 7)) (fun k => ?_) (Ev.now _)
              simp only [montageref07_Expand.j2]
              rw [if_pos trivial]
            refine Ev.step (fun k => ?_) h2
            simp only [montageref07_Expand.j1]
            by_cases hlt' : most < m
            · rw [if_pos hlt']
            · rw [if_neg hlt', w64 (by omega) (by omega), decide_eq_true (by omega)]
        · have hq2 : ∀ r, Ev (fun k => montageref07_Expand.j2 k l most out (i : Int) m false b n back) r → Ev (fun k => montageref07_Expand.j1 k l most out (i : Int) m b n back) r := by
            intro r h
            refine Ev.step (fun k => ?_) h
            simp only [montageref07_Expand.j1]
            rw [if_neg (by omega), w64 (by omega) (by omega), decide_eq_false (by omega)]
          by_cases h0 : n = 0
          · obtain ⟨r, hp, hr2⟩ := ih (i + 1) (out ++ [b]) (by omega) (by omega) (by simp; omega)
            rw [cast1] at hp hr2
            refine ⟨r, ?_, hq _ (hq2 _ ?_)⟩
            · refine Ev.step (fun k => ?_) hp
              show token_Expand.l0 (k + 1) most out l (l.length : Int) (i : Int) = _
              rw [p0, if_pos rfl, if_neg hback, hsum, if_neg hlim, if_pos h0, if_pos (by omega), w64 (by omega) (by omega)]
            · refine Ev.step (fun k => ?_) hr2
              simp only [montageref07_Expand.j2]
              rw [if_neg (by simp), if_pos h0, if_pos (by omega), w64 (by omega) (by omega)]
          · have hn := hm2 h0
            have hback1 : 1 ≤ back := by omega
            obtain ⟨r, hp, hr2⟩ := ih (i + 1) (cpy back n.toNat out) (by omega) (by omega) (by rw [cpy_len]; omega)
            rw [cast1] at hp hr2
            refine ⟨r, ?_, hq _ (hq2 _ ?_)⟩
            · have h1 := prog_l1 most l (i : Int) (by omega) (by omega) n back ((out.length : Int) - back) (by omega) hback1 r n.toNat out 0 (by omega) (by omega) (by omega) (by omega) (by omega) hp
              refine Ev.step (fun k => ?_) h1
              show token_Expand.l0 (k + 1) most out l (l.length : Int) (i : Int) = _
              rw [p0, if_pos rfl, if_neg hback, hsum, if_neg hlim, if_neg h0, w64 (by omega) (by omega)]
            · have h1 := ref_l1 most l (i : Int) (by omega) (by omega) n back (by omega) hback1 b n r n.toNat out 0 (by omega) (by omega) (by omega) (by omega) hr2
              refine Ev.step (fun k => ?_) h1
              simp only [montageref07_Expand.j2]
              rw [if_neg (by simp), if_neg h0, hn]

theorem mays (l : List S30) (hl : l.length ≤ 60) : ∀ (d i : Nat), l.length - i = d → i ≤ l.length → Ev (fun k => montagelaw07_TokenExpands.l0 k l (l.length : Int) (i : Int)) true := by
  intro d
  induction d with
  | zero =>
    intro i hd hi
    refine Ev.step (f := fun _ => some true) (fun k => ?_) (Ev.now _)
    simp only [montagelaw07_TokenExpands.l0]
    rw [if_neg (by omega)]
  | succ d ih =>
    intro i hd hi
    have h := ih (i + 1) (by omega) (by omega)
    rw [cast1] at h
    obtain ⟨b, n, back, hrow⟩ : ∃ b n back, rd_T30 l (i : Int) = ⟨b, n, back⟩ := ⟨_, _, _, rfl⟩
    obtain ⟨ok, e1, e2, _⟩ := may_both b n back
    refine Ev.step (fun k => ?_) h
    simp only [montagelaw07_TokenExpands.l0]
    rw [if_pos (by omega), if_pos (by omega), if_pos (by omega), hrow]
    show ((token_May.f b n back).bind fun t153 => ((montageref07_May.f b n back).bind fun t154 => _)) = _
    rw [e1, e2, Option.bind_some, Option.bind_some, if_neg (by simp), w64 (by omega) (by omega)]

theorem awake_tok : montagelaw07_awake.f 60 = some true := by kernel_rfl

theorem TokenExpands : montagelaw07_TokenExpands.Pure := by
  intro l most _ _ _ hw
  have hb : -9223372036854775808 ≤ most ∧ most < 9223372036854775808 := by
    simp only [Lit.wf, IntKind.min, IntKind.max, IntKind.signed, IntKind.bits, Bool.and_eq_true, decide_eq_true_eq] at hw
    simp at hw
    omega
  by_cases h60 : (l.length : Int) > 60
  · refine ⟨60, ?_⟩
    unfold montagelaw07_TokenExpands.f
    rw [awake_tok, Option.bind_some, if_pos rfl, if_pos h60]
  · obtain ⟨⟨s, e⟩, ⟨k1, h1⟩, ⟨k2, h2⟩⟩ := expand_both l (by omega) most hb.1 hb.2 l.length 0 [] rfl (by omega) (by simp)
    have hj : Ev (fun k => montagelaw07_TokenExpands.j0 k l false) true := by
      refine Ev.step (fun k => ?_) (mays l (by omega) l.length 0 rfl (by omega))
      simp only [montagelaw07_TokenExpands.j0]
      rw [if_neg (by simp)]
      rfl
    obtain ⟨k3, h3⟩ := hj
    refine ⟨60 + k1 + k2 + k3, ?_⟩
    have ha : montagelaw07_awake.f (60 + k1 + k2 + k3) = some true := at_rounds (g := fun k => montagelaw07_awake.f k) montagelaw07_awake.mono (k := 60) (k' := 60 + k1 + k2 + k3) (by omega) awake_tok
    have e1 : token_Expand.f (60 + k1 + k2 + k3) l most = some (s, e) := h1 _ (by omega)
    have e2 : montageref07_Expand.f (60 + k1 + k2 + k3) l most = some (s, e) := h2 _ (by omega)
    have e3 : montagelaw07_TokenExpands.j0 (60 + k1 + k2 + k3) l false = some true := h3 _ (by omega)
    unfold montagelaw07_TokenExpands.f
    rw [ha, Option.bind_some, if_pos rfl, if_neg h60, e1, Option.bind_some, e2, Option.bind_some]
    show (if s.toList = s.toList then montagelaw07_TokenExpands.j0 (60 + k1 + k2 + k3) l (e != e) else _) = _
    rw [if_pos rfl, bne_self_eq_false]
    exact e3

end Go.Proofs.Ytlgdjacgdflfaaa.Pure
