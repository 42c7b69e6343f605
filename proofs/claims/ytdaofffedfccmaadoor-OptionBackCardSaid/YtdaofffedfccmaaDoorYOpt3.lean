/- Option: Words, and their parse. It has no conditions. -/
import Derived.Lib.SmallJoins
import Derived.Test.YtdaofffedfccmaaDoorXOptionAnyx5
import Derived.Test.YtdaofffedfccmaaDoorYOpt2
import Derived.BigRegion
import Derived.RegionTactic
import Derived.ChangeAlike
import Derived.Deep.RegionWith
import Derived.Deep.RegionLaw
import Derived.Laws.Tables
import Derived.Deep.QuietTactic
import Derived.BigQuiet
import Derived.Deep.RegionHeld3
import Derived.Deep.AppendLies
import Derived.Deep.DrawnRows
import Derived.Laws.CopyOwn
import Derived.Deep.MidRow
import Derived.Laws.ResultCell
import Derived.ChangeKeysEq
import Derived.Laws.BitsAllLaws
namespace Go.Proofs.YtdaofffedfccmaaDoor.OptP
set_option linter.unusedVariables false
set_option linter.unusedSimpArgs false
open Go.RowKit Go.Proofs.YtdaofffedfccmaaDoorW.PrintWords Go.Proofs.YtdaofffedfccmaaDoorW.PrintLast Go.Proofs.YtdaofffedfccmaaDoorW.PrintMore
attribute [local go_sem] max2_int min2_int max_two min_two max_three min_three max_four min_four
open XOptionAny
/-! ### Words are the document's, and parsed again. -/
theorem dec_snoc : ∀ (l : List UInt8) (acc : Nat) (c : UInt8), isD c → Lib.decFrom acc (l ++ [c]) = (Lib.decFrom acc l).map fun m => m * 10 + (c.toNat - 48)
  | [], acc, c, h => by
    show (match Lib.digitVal c with | some d => Lib.decFrom (acc * 10 + d) [] | none => none) = some (acc * 10 + (c.toNat - 48))
    unfold Lib.digitVal
    rw [if_pos (show 48 ≤ c.toNat ∧ c.toNat ≤ 57 from h)]
    rfl
  | x :: l, acc, c, h => by
    rw [List.cons_append, Lib.decFrom, Lib.decFrom]
    cases Lib.digitVal x with
    | none => rfl
    | some d => exact dec_snoc l _ c h
theorem of48 (d : Nat) (h : d < 10) : isD (UInt8.ofNat (48 + d)) ∧ (UInt8.ofNat (48 + d)).toNat - 48 = d := by
  have e : (UInt8.ofNat (48 + d)).toNat = 48 + d := by
    rw [UInt8.toNat_ofNat']
    omega
  unfold isD
  rw [e]
  omega
theorem dd_facts : ∀ (k n : Nat), n < 10 ^ (k + 1) → (Lib.decDigits n).length ≤ k + 1 ∧ (∀ x ∈ Lib.decDigits n, isD x) ∧ Lib.decFrom 0 (Lib.decDigits n) = some n ∧ Lib.decDigits n ≠ []
  | k, n, hn => by
    by_cases h : n < 10
    · rw [Lib.decDigits, dif_pos h]
      obtain ⟨h1, h2⟩ := of48 n h
      refine ⟨by simp, ?_, ?_, by simp⟩
      · intro x hx
        rw [List.mem_singleton] at hx
        subst hx
        exact h1
      · rw [show [UInt8.ofNat (48 + n)] = [] ++ [UInt8.ofNat (48 + n)] from rfl, dec_snoc _ _ _ h1, h2, Lib.decFrom]
        simp
    · rw [Lib.decDigits, dif_neg h]
      cases k with
      | zero => exact absurd hn (by simpa using h)
      | succ k =>
        obtain ⟨g1, g2, g3, g4⟩ := dd_facts k (n / 10) (by rw [Nat.pow_succ] at hn; omega)
        obtain ⟨h1, h2⟩ := of48 (n % 10) (by omega)
        refine ⟨by rw [List.length_append]; exact Nat.succ_le_succ g1, ?_, ?_, by simp⟩
        · intro x hx
          rcases List.mem_append.1 hx with hx | hx
          · exact g2 x hx
          · rw [List.mem_singleton] at hx
            subst hx
            exact h1
        · rw [dec_snoc _ _ _ h1, h2, g3]
          show some (n / 10 * 10 + n % 10) = some n
          congr 1
          omega
theorem str1 : ∀ n : Fin 10, strOfNums [(wrap64 (48 + ((n.val : Nat) : Int))) % 256] = ⟨#[UInt8.ofNat (48 + n.val)]⟩ := by decide +kernel
theorem ba_ext {a b : ByteArray} (h : a.data.toList = b.data.toList) : a = b := ByteArray.ext (Array.ext' h)
/-- The digits of a number. -/
def dig (n : Nat) : ByteArray := ⟨(Lib.decDigits n).toArray⟩
theorem dig_data (n : Nat) : (dig n).data.toList = Lib.decDigits n := by unfold dig; simp
theorem dig_size (n : Nat) : (dig n).size = (Lib.decDigits n).length := by show (Lib.decDigits n).toArray.size = _; rw [List.size_toArray]
theorem wdv (n : Nat) (h : n ≤ 10000000) : wrap64 (Int.tdiv (n : Int) 10) = ((n / 10 : Nat) : Int) := by
  rw [show Int.tdiv (n : Int) 10 = ((n / 10 : Nat) : Int) from rfl]
  exact w64c (by omega) (by omega)
theorem digits_ev : ∀ (m n : Nat), n ≤ m → n ≤ 10000000 → Ev (fun k => montageref31_digits.f k (n : Int)) (dig n)
  | m, n, hm, hn => by
    by_cases h : n < 10
    · refine Ev.step (f := fun _ => some (dig n)) (fun k => ?_) (Ev.now _)
      rw [montageref31_digits.f, if_pos (by omega), str1 ⟨n, h⟩]
      unfold dig
      rw [Lib.decDigits, dif_pos h]
    · cases m with
      | zero => omega
      | succ m =>
        have h1 := digits_ev m (n / 10) (by omega) (by omega)
        have h2 := digits_ev m (n % 10) (by omega) (by omega)
        obtain ⟨g1, _⟩ := dd_facts 8 (n / 10) (by omega)
        obtain ⟨g2, _⟩ := dd_facts 8 (n % 10) (by omega)
        have hj : dig n = dig (n / 10) ++ dig (n % 10) := by
          refine ba_ext ?_
          rw [Go.Joins.data_append, dig_data, dig_data, dig_data, Lib.decDigits, dif_neg h]
          congr 1
          rw [Lib.decDigits, dif_pos (by omega)]
        refine Ev.step (f := fun k => (montageref31_digits.f k ((n / 10 : Nat) : Int)).bind fun t185 => ((montageref31_digits.f k ((n % 10 : Nat) : Int)).bind fun t186 => (if t185.size + t186.size ≤ 9223372036854775807 then (some (t185 ++ t186)) else (none)))) (fun k => ?_) (Ev.bind h1 (Ev.bind h2 ?_))
        · rw [montageref31_digits.f, if_neg (by omega), wdv n hn]
          rfl
        · rw [hj]
          refine Ev.congr (fun k => ?_) (Ev.now _)
          rw [if_pos (by rw [dig_size, dig_size]; omega)]
theorem itoa_dig (n : Nat) : (⟨(Lib.itoa (n : Int)).toArray⟩ : ByteArray) = dig n := by
  unfold dig
  rw [Lib.itoa_nonneg]
theorem words_ev (a b : Nat) (re sh wi : Bool) (ha : a ≤ 3) (hb : b ≤ 4194304) : Ev (fun k => montageref31_Words.f k (a : Int) re sh wi (b : Int)) (XGlob.wordsL (a : Int) re sh wi (b : Int), 0) := by
  have hm : montageref30_May.f (a : Int) re sh wi (b : Int) = some true := by
    unfold montageref30_May.f
    rw [if_pos (by omega), if_pos (by omega), if_pos (by omega), decide_eq_true (by omega)]
  obtain ⟨ga, _⟩ := dd_facts 8 a (by omega)
  obtain ⟨gb, _⟩ := dd_facts 8 b (by omega)
  have h2 : ∀ L : List ByteArray, L.length ≤ 1000 → Ev (fun k => montageref31_Words.j2 k L (a : Int) re sh wi (b : Int)) (XGlob.addW wi ⟨#[119, 105, 100, 101]⟩ (XGlob.addW sh ⟨#[115, 104, 97, 114, 101]⟩ L), 0) := by
    intro L hL
    refine Ev.step (f := fun _ => _) (fun k => ?_) (Ev.now _)
    rw [montageref31_Words.j2]
    cases sh with
    | true =>
      rw [if_pos rfl, if_pos (by omega), Option.bind_some, XGlob.addW_t]
      cases wi with
      | true => rw [if_pos rfl, if_pos (by rw [List.length_append]; simp; omega), XGlob.addW_t]
      | false => rw [if_neg (by decide), XGlob.addW_f]
    | false =>
      rw [if_neg (by decide), XGlob.addW_f]
      cases wi with
      | true => rw [if_pos rfl, if_pos (by omega), XGlob.addW_t]
      | false => rw [if_neg (by decide), XGlob.addW_f]
  have h1 : ∀ L : List ByteArray, L.length ≤ 999 → Ev (fun k => montageref31_Words.j1 k L (a : Int) re sh wi (b : Int)) (XGlob.addW wi ⟨#[119, 105, 100, 101]⟩ (XGlob.addW sh ⟨#[115, 104, 97, 114, 101]⟩ (XGlob.addW re ⟨#[114, 101, 117, 115, 101]⟩ L)), 0) := by
    intro L hL
    refine Ev.step (f := fun k => montageref31_Words.j2 k (XGlob.addW re ⟨#[114, 101, 117, 115, 101]⟩ L) (a : Int) re sh wi (b : Int)) (fun k => ?_) (h2 _ (Nat.le_trans (XGlob.addW_len _ _ _) (by omega)))
    rw [montageref31_Words.j1]
    cases re with
    | true => rw [if_pos rfl, if_pos (by omega), XGlob.addW_t]
    | false => rw [if_neg (by decide), XGlob.addW_f]
  have h0 : ∀ L : List ByteArray, L.length ≤ 998 → Ev (fun k => montageref31_Words.j0 k L (a : Int) re sh wi (b : Int)) (XGlob.addW wi ⟨#[119, 105, 100, 101]⟩ (XGlob.addW sh ⟨#[115, 104, 97, 114, 101]⟩ (XGlob.addW re ⟨#[114, 101, 117, 115, 101]⟩ (XGlob.addW ((b : Int) != 4194304) (⟨#[109, 111, 115, 116, 61]⟩ ++ dig b) L))), 0) := by
    intro L hL
    by_cases hb1 : (b : Int) = 4194304
    · have e : ((b : Int) != 4194304) = false := by rw [bne_eq_false_iff_eq]; exact hb1
      rw [e, XGlob.addW_f]
      refine Ev.step (f := fun k => montageref31_Words.j1 k L (a : Int) re sh wi (b : Int)) (fun k => ?_) (h1 L (by omega))
      rw [montageref31_Words.j0, if_pos hb1]
    · have e : ((b : Int) != 4194304) = true := by rw [bne_iff_ne]; exact hb1
      rw [e, XGlob.addW_t]
      refine Ev.step (f := fun k => (montageref31_digits.f k (b : Int)).bind fun t193 => (if 5 + t193.size ≤ 9223372036854775807 then (if L.length < 8796093022208 then (montageref31_Words.j1 k (L ++ [(⟨#[109, 111, 115, 116, 61]⟩ : ByteArray) ++ t193]) (a : Int) re sh wi (b : Int)) else (none)) else (none))) (fun k => ?_) (Ev.bind (digits_ev b b (Nat.le_refl _) (by omega)) (Ev.congr (fun k => ?_) (h1 _ (by rw [List.length_append]; simp; omega))))
      · rw [montageref31_Words.j0, if_neg hb1]
      · rw [if_pos (by rw [dig_size]; omega), if_pos (by omega)]
  unfold XGlob.wordsL
  rw [itoa_dig, itoa_dig]
  by_cases ha1 : (a : Int) = 1
  · have e : ((a : Int) != 1) = false := by rw [bne_eq_false_iff_eq]; exact ha1
    rw [e, XGlob.addW_f]
    refine Ev.congr (fun k => ?_) (h0 [] (by simp))
    unfold montageref31_Words.f
    rw [hm, Option.bind_some, if_pos rfl, if_pos ha1]
  · have e : ((a : Int) != 1) = true := by rw [bne_iff_ne]; exact ha1
    rw [e, XGlob.addW_t]
    refine Ev.congr (f := fun k => (montageref31_digits.f k (a : Int)).bind fun t189 => (if 6 + t189.size ≤ 9223372036854775807 then (if ([] : List ByteArray).length < 8796093022208 then (montageref31_Words.j0 k (([] : List ByteArray) ++ [(⟨#[108, 101, 118, 101, 108, 61]⟩ : ByteArray) ++ t189]) (a : Int) re sh wi (b : Int)) else (none)) else (none))) (fun k => ?_) (Ev.bind (digits_ev a a (Nat.le_refl _) (by omega)) (Ev.congr (fun k => ?_) (h0 _ (by simp))))
    · unfold montageref31_Words.f
      rw [hm, Option.bind_some, if_pos rfl, if_neg ha1]
    · rw [if_pos (by rw [dig_size]; omega), if_pos (by simp)]
theorem words_no_ev (lv : Int) (re sh wi : Bool) (mo : Int) (h : montageref30_May.f lv re sh wi mo = some false) : Ev (fun k => montageref31_Words.f k lv re sh wi mo) (([] : List ByteArray), 1) := by
  refine Ev.congr (fun k => ?_) (Ev.now _)
  unfold montageref31_Words.f
  rw [h, Option.bind_some, if_neg (by decide)]
theorem texts_ev (l : List ByteArray) (hl : l.length ≤ 1000) : Ev (fun k => montageref23_Texts.f k l l) true := by
  have h : ∀ (e i : Nat), i + e = l.length → Ev (fun k => montageref23_Texts.l0 k l l (i : Int)) true := by
    intro e
    induction e with
    | zero =>
      intro i hi
      refine Ev.step (f := fun _ => _) (fun k => ?_) (Ev.now _)
      rw [montageref23_Texts.l0, if_neg (by omega)]
    | succ e ih =>
      intro i hi
      refine Ev.step (f := fun k => montageref23_Texts.l0 k l l ((i + 1 : Nat) : Int)) (fun k => ?_) (ih (i + 1) (by omega))
      rw [montageref23_Texts.l0, if_pos (by omega), if_pos (by omega), if_pos (by omega), if_pos rfl, wn5 i (by omega)]
  refine Ev.congr (fun k => ?_) (h l.length 0 (by omega))
  unfold montageref23_Texts.f
  rw [if_pos rfl]
  rfl
/-! The words, one by one. -/
theorem cut_key (p : List UInt8) (hp : (61 : UInt8) ∉ p) (a : ByteArray) : XGlob.cutA (⟨(p ++ [61]).toArray⟩ ++ a) 61 = (⟨p.toArray⟩, a, true) := by
  have hd : ((⟨(p ++ [61]).toArray⟩ : ByteArray) ++ a).data.toList = p ++ 61 :: a.data.toList := by
    rw [Go.Joins.data_append]
    simp
  have hx : Lib.indexByte (p ++ 61 :: a.data.toList) 61 = (p.length : Int) := by
    clear hd
    induction p with
    | nil => rw [List.nil_append, Lib.indexByte, if_pos (by decide)]; rfl
    | cons c p ih =>
      have hc : (c == 61) = false := by rw [beq_eq_false_iff_ne]; rintro rfl; exact hp (.head _)
      have ih' := ih (fun h => hp (.tail _ h))
      rw [List.cons_append, Lib.indexByte, hc, if_neg (by decide), ih', if_neg (by rw [beq_iff_eq]; omega)]
      simp
  unfold XGlob.cutA
  rw [hd, hx, if_pos (by omega)]
  refine Prod.ext ?_ (Prod.ext ?_ rfl)
  · refine ba_ext ?_
    show (ByteArray.extract _ 0 _).data.toList = _
    rw [Lib.extract_data, hd]
    simp
  · refine ba_ext ?_
    show (ByteArray.extract _ _ _).data.toList = _
    rw [Lib.extract_data, hd]
    have hs : ((⟨(p ++ [61]).toArray⟩ : ByteArray) ++ a).size = p.length + 1 + a.data.toList.length := by
      have : ((⟨(p ++ [61]).toArray⟩ : ByteArray) ++ a).size = ((⟨(p ++ [61]).toArray⟩ : ByteArray) ++ a).data.toList.length := by rw [Array.length_toList]; rfl
      rw [this, hd]
      simp
      omega
    rw [hs]
    simp
    exact List.take_of_length_le (by rw [Array.length_toList]; exact Nat.le_refl _)
theorem ok_dig (k n : Nat) (hk : k ≤ 6) (h : n < 10 ^ (k + 1)) : XGlob.okDigits (dig n) ((k + 1 : Nat) : Int) = true ∧ XGlob.atoiV (dig n).data.toList = (n : Int) := by
  obtain ⟨h1, h2, h3, h4⟩ := dd_facts k n h
  constructor
  · refine (ok_iff _ _).2 ⟨by rw [dig_data]; exact h4, by rw [dig_size]; omega, by rw [dig_data]; exact h2⟩
  · rw [dig_data]
    exact atoi_dec _ n (by omega) h4 h2 h3
theorem fl1 : XGlob.flagV ⟨#[114, 101, 117, 115, 101]⟩ = 1 := by kernel_rfl
theorem fl2 : XGlob.flagV ⟨#[115, 104, 97, 114, 101]⟩ = 2 := by kernel_rfl
theorem fl3 : XGlob.flagV ⟨#[119, 105, 100, 101]⟩ = 3 := by kernel_rfl
section
variable (rest : List ByteArray) (lv : Int) (re sh wi : Bool) (mo : Int) (K : List (List UInt8))
theorem p_lv (n : Nat) (hn : n ≤ 3) (hK : XGlob.lvlL ∉ K) : XGlob.parseL ((⟨#[108, 101, 118, 101, 108, 61]⟩ ++ dig n) :: rest) (lv, re, sh, wi, mo, K) = XGlob.parseL rest ((n : Int), re, sh, wi, mo, XGlob.lvlL :: K) := by
  have hc : XGlob.cutA (⟨#[108, 101, 118, 101, 108, 61]⟩ ++ dig n) 61 = (⟨#[108, 101, 118, 101, 108]⟩, dig n, true) := cut_key XGlob.lvlL (by decide) (dig n)
  rw [parse_cons _ _ _ _ _ _ _ _ _ _ _ hc]
  obtain ⟨h1, h2⟩ := ok_dig 0 n (by decide) (by omega)
  have e : (⟨#[108, 101, 118, 101, 108]⟩ : ByteArray).data.toList = XGlob.lvlL := rfl
  rw [e, if_pos (by decide), show XGlob.dgK XGlob.lvlL = ((0 + 1 : Nat) : Int) from by decide, if_pos h1, h2, show XGlob.moK XGlob.lvlL = 3 from by decide, if_neg (by omega)]
  unfold nextR
  rw [if_neg hK]
  rfl
theorem p_mo (n : Nat) (hn : n ≤ 4194304) (hK : XGlob.mostL ∉ K) : XGlob.parseL ((⟨#[109, 111, 115, 116, 61]⟩ ++ dig n) :: rest) (lv, re, sh, wi, mo, K) = XGlob.parseL rest (lv, re, sh, wi, (n : Int), XGlob.mostL :: K) := by
  have hc : XGlob.cutA (⟨#[109, 111, 115, 116, 61]⟩ ++ dig n) 61 = (⟨#[109, 111, 115, 116]⟩, dig n, true) := cut_key XGlob.mostL (by decide) (dig n)
  rw [parse_cons _ _ _ _ _ _ _ _ _ _ _ hc]
  obtain ⟨h1, h2⟩ := ok_dig 6 n (by decide) (by omega)
  have e : (⟨#[109, 111, 115, 116]⟩ : ByteArray).data.toList = XGlob.mostL := rfl
  rw [e, if_pos (by decide), show XGlob.dgK XGlob.mostL = ((6 + 1 : Nat) : Int) from by decide, if_pos h1, h2, show XGlob.moK XGlob.mostL = 4194304 from by decide, if_neg (by omega)]
  unfold nextR
  rw [if_neg hK]
  rfl
theorem p_re (hK : ([114, 101, 117, 115, 101] : List UInt8) ∉ K) : XGlob.parseL (⟨#[114, 101, 117, 115, 101]⟩ :: rest) (lv, re, sh, wi, mo, K) = XGlob.parseL rest (lv, true, sh, wi, mo, [114, 101, 117, 115, 101] :: K) := by
  rw [parse_cons _ _ _ _ _ _ _ _ ⟨#[114, 101, 117, 115, 101]⟩ ⟨#[]⟩ false (by kernel_rfl), if_neg (by decide), fl1, if_neg (by decide)]
  unfold nextR
  rw [if_neg hK]
  rfl
theorem p_sh (hK : ([115, 104, 97, 114, 101] : List UInt8) ∉ K) : XGlob.parseL (⟨#[115, 104, 97, 114, 101]⟩ :: rest) (lv, re, sh, wi, mo, K) = XGlob.parseL rest (lv, re, true, wi, mo, [115, 104, 97, 114, 101] :: K) := by
  rw [parse_cons _ _ _ _ _ _ _ _ ⟨#[115, 104, 97, 114, 101]⟩ ⟨#[]⟩ false (by kernel_rfl), if_neg (by decide), fl2, if_neg (by decide)]
  unfold nextR
  rw [if_neg hK]
  rfl
theorem p_wi (hK : ([119, 105, 100, 101] : List UInt8) ∉ K) : XGlob.parseL (⟨#[119, 105, 100, 101]⟩ :: rest) (lv, re, sh, wi, mo, K) = XGlob.parseL rest (lv, re, sh, true, mo, [119, 105, 100, 101] :: K) := by
  rw [parse_cons _ _ _ _ _ _ _ _ ⟨#[119, 105, 100, 101]⟩ ⟨#[]⟩ false (by kernel_rfl), if_neg (by decide), fl3, if_neg (by decide)]
  unfold nextR
  rw [if_neg hK]
  rfl
end
theorem p_nil (lv : Int) (re sh wi : Bool) (mo : Int) (K : List (List UInt8)) : XGlob.parseL [] (lv, re, sh, wi, mo, K) = (lv, re, sh, wi, mo, 0) := rfl
theorem words_parse (a b : Nat) (re sh wi : Bool) (ha : a ≤ 3) (hb : b ≤ 4194304) : XGlob.parseL (XGlob.wordsL (a : Int) re sh wi (b : Int)) (1, false, false, false, 4194304, []) = ((a : Int), re, sh, wi, (b : Int), 0) ∧ XGlob.parseL (XGlob.wordsL (a : Int) re sh wi (b : Int)).reverse (1, false, false, false, 4194304, []) = ((a : Int), re, sh, wi, (b : Int), 0) := by
  unfold XGlob.wordsL
  rw [itoa_dig, itoa_dig]
  obtain ⟨A, hA⟩ : ∃ x : Bool, ((a : Int) != 1) = x := ⟨_, rfl⟩
  obtain ⟨B, hB⟩ : ∃ x : Bool, ((b : Int) != 4194304) = x := ⟨_, rfl⟩
  rw [hA, hB]
  cases A <;> cases B
  · have e1 : (a : Int) = 1 := by rwa [bne_eq_false_iff_eq] at hA
    have e2 : (b : Int) = 4194304 := by rwa [bne_eq_false_iff_eq] at hB
    rw [e1, e2]
    clear hA hB e1 e2
    cases re <;> cases sh <;> cases wi <;> constructor <;> simp only [XGlob.addW_t, XGlob.addW_f, List.nil_append, List.cons_append, List.reverse_nil, List.reverse_cons] <;> (repeat (first | rw [p_re] | rw [p_sh] | rw [p_wi])) <;> first | rfl | decide
  · have e1 : (a : Int) = 1 := by rwa [bne_eq_false_iff_eq] at hA
    rw [e1]
    clear hA hB e1
    cases re <;> cases sh <;> cases wi <;> constructor <;> simp only [XGlob.addW_t, XGlob.addW_f, List.nil_append, List.cons_append, List.reverse_nil, List.reverse_cons] <;> (repeat (first | rw [p_re] | rw [p_sh] | rw [p_wi] | rw [p_mo _ _ _ _ _ _ _ _ hb])) <;> first | rfl | decide
  · have e2 : (b : Int) = 4194304 := by rwa [bne_eq_false_iff_eq] at hB
    rw [e2]
    clear hA hB e2
    cases re <;> cases sh <;> cases wi <;> constructor <;> simp only [XGlob.addW_t, XGlob.addW_f, List.nil_append, List.cons_append, List.reverse_nil, List.reverse_cons] <;> (repeat (first | rw [p_re] | rw [p_sh] | rw [p_wi] | rw [p_lv _ _ _ _ _ _ _ _ ha])) <;> first | rfl | decide
  · clear hA hB
    cases re <;> cases sh <;> cases wi <;> constructor <;> simp only [XGlob.addW_t, XGlob.addW_f, List.nil_append, List.cons_append, List.reverse_nil, List.reverse_cons] <;> (repeat (first | rw [p_re] | rw [p_sh] | rw [p_wi] | rw [p_lv _ _ _ _ _ _ _ _ ha] | rw [p_mo _ _ _ _ _ _ _ _ hb])) <;> first | rfl | decide

end Go.Proofs.YtdaofffedfccmaaDoor.OptP
