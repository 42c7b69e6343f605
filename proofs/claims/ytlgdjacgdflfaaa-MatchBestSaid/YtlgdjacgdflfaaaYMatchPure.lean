/- What tokens that Tokens hands back say: plain facts. It has no conditions. -/
import Derived.Test.YtlgdjacgdflfaaaYMatchTok
namespace Go.Proofs.Ytlgdjacgdflfaaa.XMatchTokens
set_option linter.unusedVariables false
set_option linter.unusedSimpArgs false
open Go.RowKit Go.Proofs.YtlgdjacgdflfaaaW.PrintWords Go.Proofs.YtlgdjacgdflfaaaW.PrintLast Go.Proofs.YtlgdjacgdflfaaaW.PrintMore

theorem w64 {x : Int} (h0 : -9223372036854775808 ≤ x) (h1 : x < 9223372036854775808) : wrap64 x = x := by unfold wrap64; omega
theorem ba_ext (s t : ByteArray) (h : s.size = t.size) (hb : ∀ i : Nat, i < s.size → bt s (i : Int) = bt t (i : Int)) : s = t := by
  apply ByteArray.ext
  apply Array.ext
  · exact h
  · intro i h1 h2
    have h3 := hb i h1
    unfold bt at h3
    rw [dif_pos (by rw [Int.toNat_natCast]; exact h1), dif_pos (by rw [Int.toNat_natCast]; exact h2)] at h3
    simp only [Int.toNat_natCast] at h3
    apply UInt8.toNat.inj
    have h4 : ((s.data[i]).toNat : Int) = ((t.data[i]).toNat : Int) := h3
    omega
theorem str_size (X : List Int) : (strOfNums X).size = X.length := by simp [strOfNums, ByteArray.size]
theorem str_get (X : List Int) (i : Nat) (h : i < X.length) (hb : ∀ b ∈ X, 0 ≤ b ∧ b < 256) : bt (strOfNums X) (i : Int) = X.getD i 0 := by
  have h1 : (i : Int).toNat < (strOfNums X).size := by rw [str_size, Int.toNat_natCast]; exact h
  have hx := hb X[i] (List.getElem_mem h)
  unfold bt
  rw [dif_pos h1]
  have e : ((strOfNums X)[(i : Int).toNat]'h1) = UInt8.ofNat (X[i]).toNat := by simp [strOfNums, ByteArray.getElem_eq_getElem_data]
  rw [e, List.getD_eq_getElem?_getD, List.getElem?_eq_getElem h, Option.getD_some]
  simp
  omega
/-- The first bytes of a text. -/
def pf (S : ByteArray) (p : Nat) : List Int := (List.range p).map fun (i : Nat) => bt S (i : Int)
theorem pf_len (S : ByteArray) (p : Nat) : (pf S p).length = p := by simp [pf]
theorem pf_succ (S : ByteArray) (p : Nat) : pf S (p + 1) = pf S p ++ [bt S (p : Int)] := by simp [pf, List.range_succ]
theorem pf_rd (S : ByteArray) (p i : Nat) (h : i < p) : rd (pf S p) (i : Int) = bt S (i : Int) := by
  unfold rd pf
  rw [Int.toNat_natCast, List.getD_eq_getElem?_getD, List.getElem?_map, List.getElem?_range h]
  rfl
theorem pf_all (S : ByteArray) : strOfNums (pf S S.size) = S := by
  refine ba_ext _ _ (by rw [str_size, pf_len]) fun i hi => ?_
  rw [str_size, pf_len] at hi
  rw [str_get _ _ (by rw [pf_len]; exact hi) (fun b hb => by
    unfold pf at hb
    obtain ⟨j, _, rfl⟩ := List.mem_map.1 hb
    have := bt_range S (j : Int)
    omega)]
  have := pf_rd S S.size i hi
  unfold rd at this
  rwa [Int.toNat_natCast] at this

/-- Tokens, from a place on, to the end. -/
def Seg (S : ByteArray) : Nat → List S30 → Prop
  | p, [] => p = S.size
  | p, t :: ts => ∃ r : Nat × Nat, (r = (0, 0) ∨ MG S p r.1 r.2) ∧ p < S.size ∧ t = tokOf S p r ∧ Seg S (p + stepOf r) ts
theorem Run.seg {level : Nat} {S : ByteArray} {p : Nat} {l : List S30} {LL AA : Nat → Int} (h : Run level S p l LL AA) : ∀ ts, Seg S p ts → Seg S 0 (l ++ ts) := by
  induction h with
  | start => intro ts h; simpa using h
  | step h hp ih =>
    intro ts hs
    rw [List.append_assoc]
    refine ih _ ⟨_, lookf_good level S (triesOf level) _ _ _ _ (Nat.le_refl _) h.bd.1, hp, rfl, hs⟩
theorem Seg.le {S : ByteArray} : ∀ {ts : List S30} {p : Nat}, Seg S p ts → p + ts.length ≤ S.size
  | [], p, h => by simp [Seg] at h; simp; omega
  | t :: ts, p, h => by
    obtain ⟨r, hr, hp, _, hs⟩ := h
    have := Seg.le hs
    have : 1 ≤ stepOf r := by unfold stepOf; split <;> omega
    simp only [List.length_cons]
    omega
theorem rd_mid (pre ts : List S30) (t : S30) : rd_T30 (pre ++ t :: ts) (pre.length : Int) = t := by
  unfold rd_T30
  rw [Int.toNat_natCast, List.getD_eq_getElem?_getD, List.getElem?_append_right (Nat.le_refl _), Nat.sub_self]
  rfl
theorem copy_l1 (S : ByteArray) (L : List S30) (p n b i : Nat) (f : Int) (hg : MG S p n b) (hS : S.size ≤ 100000) (r : ByteArray × Int)
    (h : Ev (fun k => montageref07_Expand.l0 k L (S.size : Int) (pf S (p + n)) ((i + 1 : Nat) : Int)) r) (hi : i ≤ 100000) :
    ∀ d j : Nat, j + d = n → Ev (fun k => montageref07_Expand.l1 k L (S.size : Int) (pf S (p + j)) (i : Int) (n : Int) (j : Int) f (n : Int) (b : Int)) r := by
  obtain ⟨g1, g2, g3, g4, g5, g6, g7⟩ := hg
  intro d
  induction d with
  | zero =>
    intro j hj
    obtain rfl : j = n := by omega
    refine Ev.step (fun k => ?_) h
    simp only [montageref07_Expand.l1]
    rw [if_neg (by omega), w64 (by omega) (by omega)]
    rfl
  | succ d ih =>
    intro j hj
    refine Ev.step (fun k => ?_) (ih (j + 1) (by omega))
    have hl : ((pf S (p + j)).length : Int) = ((p + j : Nat) : Int) := by rw [pf_len]
    have hw : wrap64 (((p + j : Nat) : Int) - (b : Int)) = ((p - b + j : Nat) : Int) := by rw [w64 (by omega) (by omega)]; omega
    have hrd : rd (pf S (p + j)) ((p - b + j : Nat) : Int) = bt S ((p + j : Nat) : Int) := by rw [pf_rd _ _ _ (by omega), g7 j (by omega)]
    simp only [montageref07_Expand.l1]
    rw [if_pos (by omega), hl, hw, if_pos (by omega), if_pos (by omega), pf_len, if_pos (by omega), hrd, ← pf_succ, w64 (by omega) (by omega)]
    rfl
theorem expand_seg (S : ByteArray) (hS : S.size ≤ 100000) : ∀ (ts pre : List S30) (p : Nat), Seg S p ts → pre.length ≤ p →
    Ev (fun k => montageref07_Expand.l0 k (pre ++ ts) (S.size : Int) (pf S p) (pre.length : Int)) (S, 0)
  | [], pre, p, h, hp => by
    have h' : p = S.size := h
    subst h'
    refine Ev.step (f := fun _ => some (S, (0 : Int))) (fun k => ?_) (Ev.now _)
    simp only [montageref07_Expand.l0]
    rw [List.append_nil, if_neg (by omega), pf_all]
  | t :: ts, pre, p, h, hp => by
    obtain ⟨r, hr, hp2, rfl, hs⟩ := h
    have hle := Seg.le hs
    have hst : 1 ≤ stepOf r := by unfold stepOf; split <;> omega
    have ih := expand_seg S hS ts (pre ++ [tokOf S p r]) (p + stepOf r) hs (by simp; omega)
    rw [List.append_assoc] at ih
    have hlen : ((pre ++ [tokOf S p r]).length : Int) = ((pre.length + 1 : Nat) : Int) := by simp
    rw [hlen] at ih
    have hm := rd_mid pre ts (tokOf S p r)
    have hLl : (pre.length : Int) < ((pre ++ tokOf S p r :: ts).length : Int) := by simp; omega
    obtain ⟨L, hL⟩ : ∃ L, pre ++ tokOf S p r :: ts = L := ⟨_, rfl⟩
    have hL2 : pre ++ ([tokOf S p r] ++ ts) = L := hL
    rw [hL2] at ih
    rw [hL] at hm hLl ⊢
    clear hL hL2 hlen
    rcases hr with rfl | hg
    · have ht : tokOf S p (0, 0) = ⟨bt S (p : Int), 0, 0⟩ := if_pos rfl
      have h1 : stepOf (0, 0) = 1 := rfl
      rw [ht] at hm
      rw [h1] at ih
      have hj2 : Ev (fun k => montageref07_Expand.j2 k L (S.size : Int) (pf S p) (pre.length : Int) 1 false (bt S (p : Int)) 0 0) (S, 0) := by
        refine Ev.step (fun k => ?_) ih
        simp only [montageref07_Expand.j2]
        rw [if_neg (by decide), if_pos trivial, if_pos (by rw [pf_len]; omega), w64 (by omega) (by omega), ← pf_succ]
        rfl
      have hj1 : Ev (fun k => montageref07_Expand.j1 k L (S.size : Int) (pf S p) (pre.length : Int) 1 (bt S (p : Int)) 0 0) (S, 0) := by
        refine Ev.step (fun k => ?_) hj2
        simp only [montageref07_Expand.j1]
        rw [if_neg (by omega), w64 (by omega) (by omega), decide_eq_false (by rw [pf_len]; omega)]
      have f0 : (rd_T30 L (pre.length : Int)).f0 = bt S (p : Int) := by rw [hm]
      have f1 : (rd_T30 L (pre.length : Int)).f1 = 0 := by rw [hm]
      have f2 : (rd_T30 L (pre.length : Int)).f2 = 0 := by rw [hm]
      have hmay : montageref07_May.f (bt S (p : Int)) 0 0 = some true := by unfold montageref07_May.f; rw [if_pos rfl]; rfl
      refine Ev.step (fun k => ?_) hj1
      simp only [montageref07_Expand.l0]
      rw [f0, f1, f2, hmay, if_pos hLl, if_pos (by omega)]
      simp only [Option.bind_some]
      rw [if_pos trivial, if_neg (by omega), if_pos trivial]
    · obtain ⟨n, b⟩ := r
      have hg' := hg
      obtain ⟨g1, g2, g3, g4, g5, g6, g7⟩ := hg'
      simp only at g1 g2 g3 g4 g5 g6 g7
      have ht : tokOf S p (n, b) = ⟨0, (n : Int), (b : Int)⟩ := if_neg (by show ¬ n = 0; omega)
      have h1 : stepOf (n, b) = n := if_neg (by show ¬ n = 0; omega)
      rw [ht] at hm
      rw [h1] at ih
      have hl1 := copy_l1 S L p n b pre.length 0 hg hS _ ih (by omega) n 0 (by omega)
      have hj2 : Ev (fun k => montageref07_Expand.j2 k L (S.size : Int) (pf S p) (pre.length : Int) (n : Int) false 0 (n : Int) (b : Int)) (S, 0) := by
        refine Ev.step (fun k => ?_) hl1
        simp only [montageref07_Expand.j2]
        rw [if_neg (by decide), if_neg (by omega)]
        rfl
      have hj1 : Ev (fun k => montageref07_Expand.j1 k L (S.size : Int) (pf S p) (pre.length : Int) (n : Int) 0 (n : Int) (b : Int)) (S, 0) := by
        refine Ev.step (fun k => ?_) hj2
        simp only [montageref07_Expand.j1]
        rw [if_neg (by omega), w64 (by omega) (by omega), decide_eq_false (by rw [pf_len]; omega)]
      have f0 : (rd_T30 L (pre.length : Int)).f0 = 0 := by rw [hm]
      have f1 : (rd_T30 L (pre.length : Int)).f1 = (n : Int) := by rw [hm]
      have f2 : (rd_T30 L (pre.length : Int)).f2 = (b : Int) := by rw [hm]
      have hmay : montageref07_May.f 0 (n : Int) (b : Int) = some true := by
        unfold montageref07_May.f
        rw [if_neg (by omega), if_pos (by omega), if_pos (by omega), if_pos (by omega), if_pos (by omega)]
        rfl
      refine Ev.step (fun k => ?_) hj1
      simp only [montageref07_Expand.l0]
      rw [f0, f1, f2, hmay, if_pos hLl, if_pos (by omega)]
      simp only [Option.bind_some]
      rw [if_pos trivial, if_neg (by rw [pf_len]; omega), if_neg (by omega)]
theorem size_seg (S : ByteArray) (hS : S.size ≤ 100000) : ∀ (ts pre : List S30) (p : Nat), Seg S p ts → pre.length ≤ p →
    Ev (fun k => match_Size.l0 k (p : Int) (pre ++ ts) ((pre ++ ts).length : Int) (pre.length : Int)) (S.size : Int)
  | [], pre, p, h, hp => by
    have h' : p = S.size := h
    subst h'
    refine Ev.step (f := fun _ => some (S.size : Int)) (fun k => ?_) (Ev.now _)
    simp only [match_Size.l0]
    rw [List.append_nil, if_neg (by omega)]
  | t :: ts, pre, p, h, hp => by
    obtain ⟨r, hr, hp2, rfl, hs⟩ := h
    have hle := Seg.le hs
    have hst : 1 ≤ stepOf r := by unfold stepOf; split <;> omega
    have ih := size_seg S hS ts (pre ++ [tokOf S p r]) (p + stepOf r) hs (by simp; omega)
    rw [List.append_assoc] at ih
    have hlen : ((pre ++ [tokOf S p r]).length : Int) = ((pre.length + 1 : Nat) : Int) := by simp
    rw [hlen] at ih
    have hm := rd_mid pre ts (tokOf S p r)
    have hLl : (pre.length : Int) < ((pre ++ tokOf S p r :: ts).length : Int) := by simp; omega
    obtain ⟨L, hL⟩ : ∃ L, pre ++ tokOf S p r :: ts = L := ⟨_, rfl⟩
    have hL2 : pre ++ ([tokOf S p r] ++ ts) = L := hL
    rw [hL2] at ih
    rw [hL] at hm hLl ⊢
    clear hL hL2 hlen
    have hv : mx (mn ((rd_T30 L (pre.length : Int)).f1) 258) 1 = ((stepOf r : Nat) : Int) := by
      rw [hm]
      rcases hr with rfl | hg
      · rfl
      · obtain ⟨n, b⟩ := r
        obtain ⟨g1, g2, _⟩ := hg
        simp only at g1 g2
        have ht : tokOf S p (n, b) = ⟨0, (n : Int), (b : Int)⟩ := if_neg (by show ¬ n = 0; omega)
        have h1 : stepOf (n, b) = n := if_neg (by show ¬ n = 0; omega)
        rw [ht, h1]
        have e1 : mn (n : Int) 258 = (n : Int) := if_neg (by omega)
        have e2 : mx (n : Int) 1 = (n : Int) := if_neg (by omega)
        show mx (mn (n : Int) 258) 1 = (n : Int)
        rw [e1, e2]
    refine Ev.step (fun k => ?_) ih
    simp only [match_Size.l0]
    rw [if_pos hLl, if_pos (by omega), if_pos hLl, hv, w64 (by omega) (by omega), w64 (by omega) (by omega)]
    rfl
/-- What a whole run's tokens say. -/
theorem run_says {level : Nat} {S : ByteArray} {l : List S30} {LL AA : Nat → Int} (h : Run level S S.size l LL AA) (hS : S.size ≤ 100000) :
    (∃ k, montageref07_Expand.f k l (S.size : Int) = some (S, 0)) ∧ (∃ k, match_Size.f k l = some (S.size : Int)) ∧ l.length ≤ S.size ∧ (0 < S.size → 0 < l.length) := by
  have hs : Seg S 0 (l ++ []) := h.seg [] rfl
  rw [List.append_nil] at hs
  have h1 := (expand_seg S hS l [] 0 hs (by simp)).rounds
  have h2 := (size_seg S hS l [] 0 hs (by simp)).rounds
  refine ⟨h1, h2, by have := Seg.le hs; omega, fun hp => ?_⟩
  cases l with
  | nil => have : 0 = S.size := hs; omega
  | cons t ts => simp
theorem run_zero {S : ByteArray} {p : Nat} {l : List S30} {LL AA : Nat → Int} (h : Run 0 S p l LL AA) : l.length = p := by
  induction h with
  | start => rfl
  | step h hp ih =>
    have e : ∀ LL AA p, lookf 0 S (triesOf 0) LL AA p = (0, 0) := fun _ _ _ => if_pos rfl
    rw [e]
    simp [stepOf, ih]
end Go.Proofs.Ytlgdjacgdflfaaa.XMatchTokens
