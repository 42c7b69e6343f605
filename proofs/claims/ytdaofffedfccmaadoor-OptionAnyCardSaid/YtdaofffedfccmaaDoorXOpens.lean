/- Values that come in, read as data of any shape: numbers, bools, strings, structs of these, slices of these. It has no conditions. -/
import Derived.Deep.Slices
import Derived.ChangeSame
import Derived.SizedLaws
import Derived.Test.YtdaofffedfccmaaDoorWWords
namespace Go.Proofs.YtdaofffedfccmaaDoor.Opens
open Go.ChangeShapes Go.WideShapes Go.Deep Go.RowKit Go.Proofs.YtdaofffedfccmaaDoorW.PrintWords
set_option linter.unusedVariables false
set_option linter.unusedSimpArgs false

/-- Whatever is read at this type is a value of the kind d, and one of which G holds. -/
def Opens {α : Type} (P : Program) (t : TypeId) (d : Kd α) (G : α → Prop) : Prop :=
  ∀ (H : Type) (enc : TypeId × Value → H) (W : World) (fuel : Nat) (cs : List Value) (x : DataW H × List MemPlace),
    DataW.trod enc P W 0 (fun _ => true) true fuel t cs = some x → ∃ a : α, d.K W a cs ∧ G a

section
variable {P : Program} {α : Type} {d : Kd α} {G : α → Prop}

theorem opens_int {t : TypeId} {k : IntKind} (ht : P.underlying t = some (.int k)) : Opens P t (Kd.int k) (fun n => (Lit.int k n).wf = true) := by
  intro H enc W fuel cs x h
  obtain ⟨n, rfl, _, hw⟩ := DataW.trod_int ht h
  exact ⟨n, rfl, hw⟩

theorem opens_bool {t : TypeId} (ht : P.underlying t = some .bool) : Opens P t Kd.bool (fun _ => True) := by
  intro H enc W fuel cs x h
  obtain ⟨b, rfl, _⟩ := DataW.trod_bool ht h
  exact ⟨b, rfl, trivial⟩

theorem opens_string {t : TypeId} (ht : P.underlying t = some .string) : Opens P t Kd.string (fun s => s.size ≤ maxLen) := by
  intro H enc W fuel cs x h
  obtain ⟨s, rfl, _, hs⟩ := DataW.trod_string ht h
  exact ⟨s, rfl, hs⟩

/-- A slice's elements, one by one, from what is told of each place. -/
theorem rows_of {W : World} {A : Addr} {sz : Nat} (n : Nat) (h : ∀ i, i < n → ∃ (a : α) (c : List Value), d.K W a c ∧ G a ∧ ∀ j u, c[j]? = some u → W.cell? (A.add (i * sz + j)) = some u) (hsz : sz = d.sz) :
    ∃ l : List α, l.length = n ∧ (∀ j p, l[j]? = some p → ∃ c, c.length = d.sz ∧ d.K W p c ∧ ∀ i u, c[i]? = some u → W.cell? (A.add (j * d.sz + i)) = some u) ∧ ∀ a ∈ l, G a := by
  subst hsz
  induction n with
  | zero => exact ⟨[], rfl, fun j p hj => by simp at hj, fun a ha => by simp at ha⟩
  | succ n ih =>
    obtain ⟨l, hl, h1, h2⟩ := ih (fun i hi => h i (by omega))
    obtain ⟨a, c, hk, hg, hc⟩ := h n (by omega)
    refine ⟨l ++ [a], by simp [hl], fun j p hj => ?_, fun b hb => ?_⟩
    · by_cases hj' : j < l.length
      · rw [List.getElem?_append_left hj'] at hj
        exact h1 j p hj
      · rw [List.getElem?_append_right (by omega)] at hj
        by_cases hje : j = l.length
        · subst hje
          simp at hj
          subst hj
          rw [hl]
          exact ⟨c, d.K_len hk, hk, hc⟩
        · have : ([a] : List α)[j - l.length]? = none := by
            rw [List.getElem?_eq_none_iff]
            simp
            omega
          rw [this] at hj
          cases hj
    · rcases List.mem_append.1 hb with hb | hb
      · exact h2 b hb
      · simp at hb
        subst hb
        exact hg

theorem slice_of {t e : TypeId} (ht : P.underlying t = some (.slice e)) (hC : P.cellsOf e = d.sz) (hO : Opens P e d G) {H : Type} {enc : TypeId × Value → H} {W : World} {fuel : Nat} {cs : List Value} {x : DataW H × List MemPlace}
    (h : DataW.trod enc P W 0 (fun _ => true) true fuel t cs = some x) : ∃ (A : Option Addr) (l : List α) (cap : Nat), cs = [.slice A l.length cap] ∧ l.length ≤ cap ∧ cap ≤ maxLen ∧ d.C W A l.length l ∧ (∀ a ∈ l, G a) ∧ (x.1 = .nil ∧ l = [] ∨ ∃ es sp, x.1 = .slice es sp ∧ es.length = l.length) := by
  rcases open_slice ht h with ⟨rfl, hx⟩ | ⟨a, len, cap, m, n, D, Pl, rfl, _, hl, hm, hmm, hx, hi⟩
  · refine ⟨none, [], 0, rfl, Nat.le_refl _, Nat.zero_le _, ⟨rfl, by simp, fun h => by simp at h⟩, fun a ha => by simp at ha, .inl ⟨by rw [hx], rfl⟩⟩
  · have hm' : m = cap := by simpa using hmm
    obtain ⟨l, hll, hk, hg⟩ := rows_of (d := d) (G := G) (W := W) (A := a) (sz := P.cellsOf e) len (fun i hil => by
      obtain ⟨cs', hc, ht'⟩ := hi i (by omega)
      obtain ⟨b, hb, hgb⟩ := hO _ _ _ _ _ _ ht'
      obtain ⟨_, hcl, hat⟩ := World.cells?_some hc
      refine ⟨b, cs', hb, hgb, fun j u hu => ?_⟩
      have hj : j < P.cellsOf e := by
        have := (List.getElem?_eq_some_iff.1 hu).1
        omega
      rw [← Go.Deep.add_add, hat j hj, hu]) hC
    subst hll
    unfold maxLen at hm
    exact ⟨some a, l, cap, rfl, hl, by unfold maxLen; exact hm, ⟨rfl, by omega, fun _ => ⟨a, rfl, hk⟩⟩, hg, .inr ⟨_, _, by rw [hx], by simp⟩⟩

theorem opens_slice {t e : TypeId} (ht : P.underlying t = some (.slice e)) (hC : P.cellsOf e = d.sz) (hO : Opens P e d G) : Opens P t (Kd.slice e d) (fun l => l.length ≤ maxLen ∧ ∀ a ∈ l, G a) := by
  intro H enc W fuel cs x h
  obtain ⟨A, l, cap, rfl, hl, hm, hC, hg, _⟩ := slice_of ht hC hO h
  exact ⟨l, ⟨A, cap, rfl, hl, hC⟩, by omega, hg⟩

/-- An argument that is a slice. -/
theorem arg_slice {H : Type} {ts : List TypeId} {ds : List (DataW H)} {t e : TypeId} {B : Nat} (ht : P.underlying t = some (.slice e)) (hC : P.cellsOf e = d.sz) (hB : P.bytesOf e = B) (hO : Opens P e d G) {enc : TypeId × Value → H} {W : World} {a : Option Addr} {len cap : Nat} {y : DataW H} {p : List MemPlace}
    (hsz : (DataW.weightsEach P ts ds).all (· ≤ reachBytes) = true) {j : Nat} (hj : ts[j]? = some t) (hd : ds[j]? = some y)
    (h : DataW.Trod enc P W 0 (fun _ => true) true t (.slice a len cap) y p) : ∃ l : List α, len = l.length ∧ l.length ≤ cap ∧ l.length ≤ maxLen ∧ d.C W a l.length l ∧ (∀ a ∈ l, G a) ∧ l.length * B ≤ 140737488351232 := by
  obtain ⟨fuel, hf⟩ := h
  obtain ⟨A, l, c, hcs, hl, hm, hk, hg, hx⟩ := slice_of ht hC hO hf
  simp [Value.cells] at hcs
  obtain ⟨rfl, rfl, rfl⟩ := hcs
  refine ⟨l, rfl, hl, by omega, hk, hg, ?_⟩
  rcases hx with ⟨_, rfl⟩ | ⟨es, sp, hx, hes⟩
  · simp
  · simp only at hx
    subst hx
    have z := sized_slice hsz hj hd ht
    rw [hB, hes] at z
    have : l.length * B ≤ (l.length + sp.length) * B := Nat.mul_le_mul_right _ (by omega)
    have r : reachBytes = 140737488351232 := by decide
    omega

theorem cons_of {n : Nat} {cs : List Value} (h : cs.length = n + 1) : ∃ v r, cs = v :: r ∧ r.length = n := by
  cases cs with
  | nil => simp at h
  | cons v r => exact ⟨v, r, rfl, by simpa using h⟩

theorem nil_of {cs : List Value} (h : cs.length = 0) : cs = [] := List.eq_nil_of_length_eq_zero h

/-- The cells of a struct, from a place on. -/
theorem split_at (cs : List Value) (o n m : Nat) (h : cs.length = o + (n + m)) : cs.drop o = ((cs.drop o).take n) ++ cs.drop (o + n) := by
  rw [← List.drop_drop, List.take_append_drop]
end
end Go.Proofs.YtdaofffedfccmaaDoor.Opens
