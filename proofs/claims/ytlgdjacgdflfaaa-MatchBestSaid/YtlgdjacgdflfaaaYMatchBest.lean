/- MatchBest: the longest match is the document's; the walk of the law. It has no conditions. -/
import Derived.Test.YtlgdjacgdflfaaaYMatchLaw
import Derived.Test.YtlgdjacgdflfaaaXMatchBestx
namespace Go.Proofs.Ytlgdjacgdflfaaa.XMatchTokens
set_option linter.unusedVariables false
set_option linter.unusedSimpArgs false
open Go.RowKit Go.Proofs.YtlgdjacgdflfaaaW.PrintWords Go.Proofs.YtlgdjacgdflfaaaW.PrintLast Go.Proofs.YtlgdjacgdflfaaaW.PrintMore
attribute [local go_sem ↓] Go.wp_at_zero Go.wp_at_succ
/-- Behind the document's count of a distance. -/
def ct (k : Nat) (S : ByteArray) (p lo ba d n : Int) : Option (Int × Int) :=
  if n ≥ 3 then (if n > lo then (XMatchBest.montageref09_Best.l0 k S p n d (wrap64 (d + 1))) else (XMatchBest.montageref09_Best.l0 k S p lo ba (wrap64 (d + 1)))) else (XMatchBest.montageref09_Best.l0 k S p lo ba (wrap64 (d + 1)))
theorem ref_l1 (S : ByteArray) (p d : Nat) (lo ba : Int) (r : Int × Int) (hS : S.size ≤ 4194304) (hd : 1 ≤ d) (hdp : d ≤ p) (hp : p < S.size) (h : Ev (fun k => ct k S (p : Int) lo ba (d : Int) ((sameN S p (p - d) : Nat) : Int)) r) :
    ∀ f n : Nat, n + f = 258 → sm S p (p - d) f n = sameN S p (p - d) → Ev (fun k => XMatchBest.montageref09_Best.l1 k S (p : Int) lo ba (d : Int) (n : Int)) r := by
  intro f
  induction f with
  | zero =>
    intro n hn hs
    have e : n = sameN S p (p - d) := hs
    rw [← e] at h
    refine Ev.step (fun k => ?_) h
    simp only [XMatchBest.montageref09_Best.l1]
    rw [if_neg (by omega)]
    rfl
  | succ f ih =>
    intro n hn hs
    have w1 := Aside0.mk (show wrap64 ((p : Int) + n) = ((p + n : Nat) : Int) from by rw [w64 (by omega) (by omega)]; omega)
    have w2 := Aside0.mk (show wrap64 (((p + n : Nat) : Int) - (d : Int)) = ((p - d + n : Nat) : Int) from by rw [w64 (by omega) (by omega)]; omega)
    have w3 := Aside0.mk (show wrap64 ((n : Int) + 1) = ((n + 1 : Nat) : Int) from by rw [w64 (by omega) (by omega)]; omega)
    rw [sm] at hs
    by_cases h1 : p + n < S.size
    · by_cases h2 : bt S ((p + n : Nat) : Int) = bt S ((p - d + n : Nat) : Int)
      · rw [if_pos ⟨by omega, h1, h2⟩] at hs
        refine Ev.step (fun k => ?_) (ih (n + 1) (by omega) hs)
        simp only [XMatchBest.montageref09_Best.l1]
        rw [if_pos (by omega), w1.out, if_pos (by omega), if_pos (by omega), w2.out, if_pos (by omega), if_pos (by omega), if_pos h2, w3.out]
      · rw [if_neg (fun h => h2 h.2.2)] at hs
        rw [← hs] at h
        refine Ev.step (fun k => ?_) h
        simp only [XMatchBest.montageref09_Best.l1]
        rw [if_pos (by omega), w1.out, if_pos (by omega), if_pos (by omega), w2.out, if_pos (by omega), if_pos (by omega), if_neg h2]
        rfl
    · rw [if_neg (fun h => h1 h.2.1)] at hs
      rw [← hs] at h
      refine Ev.step (fun k => ?_) h
      simp only [XMatchBest.montageref09_Best.l1]
      rw [if_pos (by omega), w1.out, if_neg (by omega)]
      rfl
def Rel (lo ba lo' ba' : Nat) : Prop := (lo = 2 ∧ ba = 0 ∧ lo' = 0 ∧ ba' = 0) ∨ (lo' = lo ∧ ba' = ba ∧ 3 ≤ lo ∧ 1 ≤ ba)
theorem best_ev (S : ByteArray) (p : Nat) (hS : S.size ≤ 4194304) (hp : p < S.size) : ∀ (m d lo ba lo' ba' : Nat), 1 ≤ d → d + m = min p 32768 + 1 → Rel lo ba lo' ba' →
    ∃ r : Int × Int, Ev (fun k => match_Best.l0 k S (p : Int) (lo : Int) (ba : Int) ((p : Int) - (d : Int))) r ∧ Ev (fun k => XMatchBest.montageref09_Best.l0 k S (p : Int) (lo' : Int) (ba' : Int) (d : Int)) r := by
  intro m
  have hmx : ∃ M : Int, mx (wrap64 ((p : Int) - 32768)) 0 = M ∧ M = (if (p : Int) - 32768 < 0 then 0 else (p : Int) - 32768) := ⟨_, rfl, by rw [w64 (by omega) (by omega)]; rfl⟩
  obtain ⟨M, hM, hM2⟩ := hmx
  have HM := Aside0.mk hM
  clear hM
  have hM3 : (p ≤ 32768 ∧ M = 0) ∨ (32768 < p ∧ M = (p : Int) - 32768) := by rw [hM2]; split <;> omega
  clear hM2
  induction m with
  | zero =>
    intro d lo ba lo' ba' hd hdm hr
    refine ⟨if ba = 0 then (0, 0) else ((lo : Int), (ba : Int)), ?_, ?_⟩
    · refine Ev.step (f := fun _ => some (if ba = 0 then (0, 0) else ((lo : Int), (ba : Int)))) (fun k => ?_) (Ev.now _)
      simp only [match_Best.l0]
      rw [HM.out, if_neg (by omega)]
      by_cases h0 : ba = 0
      · rw [if_pos (by omega), if_pos h0]
      · rw [if_neg (by omega), if_neg h0]
    · have e : ((lo' : Int), (ba' : Int)) = if ba = 0 then (0, 0) else ((lo : Int), (ba : Int)) := by
        rcases hr with ⟨rfl, rfl, rfl, rfl⟩ | ⟨rfl, rfl, h1, h2⟩
        · rfl
        · rw [if_neg (by omega)]
      rw [← e]
      have hj : Ev (fun k => XMatchBest.montageref09_Best.j2 k S (p : Int) (lo' : Int) (ba' : Int) (d : Int) false) ((lo' : Int), (ba' : Int)) := by
        refine Ev.step (f := fun _ => some ((lo' : Int), (ba' : Int))) (fun k => ?_) (Ev.now _)
        simp only [XMatchBest.montageref09_Best.j2]
        rw [if_neg (by decide)]
      refine Ev.step (fun k => ?_) hj
      simp only [XMatchBest.montageref09_Best.l0]
      by_cases h1 : d ≤ p
      · rw [if_pos (by omega), decide_eq_false (by omega)]
      · rw [if_neg (by omega)]
  | succ m ih =>
    intro d lo ba lo' ba' hd hdm hr
    have hdp : d ≤ p := by omega
    obtain ⟨b, hb⟩ : ∃ b : Nat, p - d = b := ⟨_, rfl⟩
    have hbe : (p : Int) - (d : Int) = (b : Int) := by omega
    have hse := same_ev S p b (by omega) hS (by omega)
    obtain ⟨n, hn⟩ : ∃ n, sameN S p b = n := ⟨_, rfl⟩
    rw [hn] at hse
    have wb1 := Aside0.mk (show wrap64 ((p : Int) - (b : Int)) = (d : Int) from by rw [w64 (by omega) (by omega)]; omega)
    have wb2 := Aside0.mk (show wrap64 ((b : Int) - 1) = (p : Int) - ((d + 1 : Nat) : Int) from by rw [w64 (by omega) (by omega)]; omega)
    have wd := Aside0.mk (show wrap64 ((d : Int) + 1) = ((d + 1 : Nat) : Int) from by rw [w64 (by omega) (by omega)]; rfl)
    have key : ∀ (r : Int × Int) (lo2 ba2 lo2' ba2' : Nat), Rel lo2 ba2 lo2' ba2' →
        (lo < n → lo2 = n ∧ ba2 = d) → (¬ lo < n → lo2 = lo ∧ ba2 = ba) → (3 ≤ n ∧ lo' < n → lo2' = n ∧ ba2' = d) → (¬ (3 ≤ n ∧ lo' < n) → lo2' = lo' ∧ ba2' = ba') →
        Ev (fun k => match_Best.l0 k S (p : Int) (lo2 : Int) (ba2 : Int) ((p : Int) - ((d + 1 : Nat) : Int))) r → Ev (fun k => XMatchBest.montageref09_Best.l0 k S (p : Int) (lo2' : Int) (ba2' : Int) ((d + 1 : Nat) : Int)) r →
        Ev (fun k => match_Best.l0 k S (p : Int) (lo : Int) (ba : Int) ((p : Int) - (d : Int))) r ∧ Ev (fun k => XMatchBest.montageref09_Best.l0 k S (p : Int) (lo' : Int) (ba' : Int) (d : Int)) r := by
      intro r lo2 ba2 lo2' ba2' _ q1 q2 q3 q4 e1 e2
      constructor
      · rw [hbe]
        have hcont : Ev (fun k => if (n : Int) > (lo : Int) then (match_Best.l0 k S (p : Int) (n : Int) (wrap64 ((p : Int) - (b : Int))) (wrap64 ((b : Int) - 1))) else (match_Best.l0 k S (p : Int) (lo : Int) (ba : Int) (wrap64 ((b : Int) - 1)))) r := by
          refine Ev.congr (fun k => ?_) e1
          rw [wb1.out, wb2.out]
          by_cases h : lo < n
          · obtain ⟨rfl, rfl⟩ := q1 h
            rw [if_pos (by omega)]
          · obtain ⟨rfl, rfl⟩ := q2 h
            rw [if_neg (by omega)]
        refine Ev.step (fun k => ?_) (Ev.bind (f := fun k (t : Int) => if t > (lo : Int) then (match_Best.l0 k S (p : Int) t (wrap64 ((p : Int) - (b : Int))) (wrap64 ((b : Int) - 1))) else (match_Best.l0 k S (p : Int) (lo : Int) (ba : Int) (wrap64 ((b : Int) - 1)))) hse hcont)
        simp only [match_Best.l0]
        rw [HM.out, if_pos (by omega)]
      · have hl1 := ref_l1 S p d (lo' : Int) (ba' : Int) r hS hd hdp hp (by
          rw [hb, hn]
          refine Ev.congr (fun k => ?_) e2
          unfold ct
          rw [wd.out]
          by_cases h : 3 ≤ n ∧ lo' < n
          · obtain ⟨rfl, rfl⟩ := q3 h
            rw [if_pos (by omega), if_pos (by omega)]
          · obtain ⟨rfl, rfl⟩ := q4 h
            by_cases h3 : 3 ≤ n
            · rw [if_pos (by omega), if_neg (by omega)]
            · rw [if_neg (by omega)]) 258 0 rfl rfl
        have hj : Ev (fun k => XMatchBest.montageref09_Best.j2 k S (p : Int) (lo' : Int) (ba' : Int) (d : Int) true) r := by
          refine Ev.step (fun k => ?_) hl1
          simp only [XMatchBest.montageref09_Best.j2]
          rw [if_pos trivial]
          rfl
        refine Ev.step (fun k => ?_) hj
        simp only [XMatchBest.montageref09_Best.l0]
        rw [if_pos (by omega), decide_eq_true (by omega)]
    by_cases h : lo < n
    · have h3 : 3 ≤ n ∧ lo' < n := by rcases hr with hr | hr <;> omega
      obtain ⟨r, e1, e2⟩ := ih (d + 1) n d n d (by omega) (by omega) (.inr ⟨rfl, rfl, h3.1, hd⟩)
      exact ⟨r, key r n d n d (.inr ⟨rfl, rfl, h3.1, hd⟩) (fun _ => ⟨rfl, rfl⟩) (fun h' => absurd h h') (fun _ => ⟨rfl, rfl⟩) (fun h' => absurd h3 h') e1 e2⟩
    · have h3 : ¬ (3 ≤ n ∧ lo' < n) := by rcases hr with hr | hr <;> omega
      obtain ⟨r, e1, e2⟩ := ih (d + 1) lo ba lo' ba' (by omega) (by omega) hr
      exact ⟨r, key r lo ba lo' ba' hr (fun h' => absurd h' h) (fun _ => ⟨rfl, rfl⟩) (fun h' => absurd h' h3) (fun _ => ⟨rfl, rfl⟩) e1 e2⟩
theorem best_same (S : ByteArray) (n : Int) (hS : S.size ≤ 4194304) : ∃ (r1 r2 : Int) (k1 k2 : Nat), match_Best.f k1 S n = some (r1, r2) ∧ XMatchBest.montageref09_Best.f k2 S n = some (r1, r2) := by
  by_cases h : n < 0 ∨ (S.size : Int) ≤ n
  · refine ⟨0, 0, 1, 1, ?_, ?_⟩
    · unfold match_Best.f
      by_cases h0 : n < 0
      · rw [if_pos h0]; rfl
      · rw [if_neg h0, decide_eq_true (by omega)]; rfl
    · unfold XMatchBest.montageref09_Best.f
      by_cases h0 : n < 0
      · rw [if_pos h0]; rfl
      · rw [if_neg h0, decide_eq_true (by omega)]; rfl
  · obtain ⟨p, rfl⟩ : ∃ p : Nat, n = p := ⟨n.toNat, by omega⟩
    obtain ⟨⟨r1, r2⟩, e1, e2⟩ := best_ev S p hS (by omega) (min p 32768) 1 2 0 0 0 (by omega) (by omega) (.inl ⟨rfl, rfl, rfl, rfl⟩)
    have f1 : Ev (fun k => match_Best.f k S (p : Int)) (r1, r2) := by
      have hj : Ev (fun k => match_Best.j0 k S (p : Int) false) (r1, r2) := by
        refine Ev.step (fun k => ?_) e1
        simp only [match_Best.j0]
        rw [if_neg (by decide), w64 (by omega) (by omega)]
        rfl
      refine Ev.congr (fun k => ?_) hj
      unfold match_Best.f
      rw [if_neg (by omega), decide_eq_false (by omega)]
    have f2 : Ev (fun k => XMatchBest.montageref09_Best.f k S (p : Int)) (r1, r2) := by
      have hj : Ev (fun k => XMatchBest.montageref09_Best.j0 k S (p : Int) false) (r1, r2) := by
        refine Ev.step (fun k => ?_) e2
        simp only [XMatchBest.montageref09_Best.j0]
        rw [if_neg (by decide)]
        rfl
      refine Ev.congr (fun k => ?_) hj
      unfold XMatchBest.montageref09_Best.f
      rw [if_neg (by omega), decide_eq_false (by omega)]
    obtain ⟨k1, h1⟩ := f1.rounds
    obtain ⟨k2, h2⟩ := f2.rounds
    exact ⟨r1, r2, k1, k2, h1, h2⟩
set_option maxHeartbeats 800000 in
set_option maxRecDepth 100000 in
theorem matchBest_walk (S : ByteArray) (n : Int) (w : World) (hs : S.size ≤ 140737488351232) (hn : (Lit.int .i64 n).wf = true) : Calls Try.prog 6 #[.string S, .int .i64 n] w fun e w' => e = .returned (.bool true) ∧ Below w.heap.size w w' := by
  by_cases h : S.size ≤ 300
  · have d0 : decide (300 < (S.size : Int)) = false := decide_eq_false (by omega)
    obtain ⟨r1, r2, k1, k2, h1, h2⟩ := best_same S n (by omega)
    have H1 := Aside0.mk h1
    have H2 := Aside0.mk h2
    clear h1 h2 h hn hs
    go_enter Try.func6, Try.ntmps6
    go_wp2_with fail
    refine (awake_match w).mono ?_
    rintro e w1 ⟨rfl, hb⟩
    have HB := Aside0.mk hb
    clear hb
    go_wp2_with fail
    refine (match_Best.calls k1 S n r1 r2 _ H1.out).mono ?_
    rintro e w2 ⟨rfl, hb⟩
    have HB2 := Aside0.mk (below_step HB.out hb)
    clear hb
    go_wp2_with fail
    refine (XMatchBest.montageref09_Best.calls k2 S n r1 r2 _ H2.out).mono ?_
    rintro e w3 ⟨rfl, ⟨⟨m, rfl⟩⟩⟩
    go_wp2
    go_ret
    exact ⟨rfl, pw_below_drewN HB2.out m⟩
  · have d0 : decide (300 < (S.size : Int)) = true := decide_eq_true (by omega)
    clear h hn hs
    go_enter Try.func6, Try.ntmps6
    go_wp2_with fail
    refine (awake_match w).mono ?_
    rintro e w1 ⟨rfl, hb⟩
    have HB := Aside0.mk hb
    clear hb
    go_wp2
    go_ret
    exact ⟨rfl, HB.out⟩
end Go.Proofs.Ytlgdjacgdflfaaa.XMatchTokens
