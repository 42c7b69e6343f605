/- Armor: Bytes It has no conditions. -/
import Derived.Test.YtdaofffedfccmaaDoorYArm5
import Derived.BigRegion
import Derived.RegionTactic
import Derived.ChangeAlike
import Derived.Deep.RegionWith
import Derived.Deep.RegionLaw
import Derived.Laws.Tables
import Derived.Deep.QuietTactic
import Derived.BigQuiet
import Derived.Deep.RegionHeld3
import Derived.Deep.AppendLies
import Derived.Deep.DrawnRows
import Derived.Laws.CopyOwn
import Derived.Deep.MidRow
import Derived.Laws.ResultCell
import Derived.ChangeKeysEq
import Derived.Laws.BitsAllLaws
namespace Go.Proofs.YtdaofffedfccmaaDoor.ArmP
set_option linter.unusedVariables false
set_option linter.unusedSimpArgs false
open Go.RowKit Go.Proofs.YtdaofffedfccmaaDoorW.PrintWords Go.Proofs.YtdaofffedfccmaaDoorW.PrintLast Go.Proofs.YtdaofffedfccmaaDoorW.PrintMore
attribute [local go_sem] max2_int min2_int max_two min_two max_three min_three max_four min_four
open XArmorSigns XGlob
/-! ### Bytes, the program's: the bytes that the signs are of, or refused. -/
theorem take_list (r : ByteArray) (n : Nat) : (r.extract 0 n).data.toList = r.data.toList.take n := by
  rw [ByteArray.data_extract, Array.toList_extract, List.extract_eq_take_drop]
  simp
/-- What Bytes answers of signs t behind the bytes dn. -/
def IsB (t : List UInt8) (dn : ByteArray) (res : ByteArray × Int) : Prop := (∀ b, signsL b = t → res = (⟨(dn.data.toList ++ b).toArray⟩, 0)) ∧ ((∀ b, signsL b ≠ t) → res = (⟨#[]⟩, 2))
theorem bytesA_all : ∀ (m : Nat) (t dn : ByteArray), t.size = 4 * m → dn.size + 3 * m ≤ 1000000000 → ∃ res, IsB t.data.toList dn res ∧ ∃ K, ∀ k n, K ≤ k → m + 1 ≤ n → bytesA k n t dn = some res
  | 0, t, dn, ht, hd => by
    have htl : t.data.toList = [] := List.length_eq_zero_iff.1 (by rw [Array.length_toList]; show t.size = 0; omega)
    refine ⟨(dn, 0), ⟨fun b hb => ?_, fun h => absurd (by rw [htl]; rfl) (h [])⟩, 0, fun k n _ hn => ?_⟩
    · rw [htl] at hb
      rw [signsL_nil b hb, List.append_nil]
    · obtain ⟨n, rfl⟩ : ∃ q, n = q + 1 := ⟨n - 1, by omega⟩
      rw [bytesA, if_pos (by omega)]
  | m + 1, t, dn, ht, hd => by
    have htl : t.data.toList.length = t.size := by rw [Array.length_toList]; rfl
    obtain ⟨x, hx⟩ : ∃ x, t.data.toList.take 4 = x := ⟨_, rfl⟩
    obtain ⟨y, hy⟩ : ∃ y, t.data.toList.drop 4 = y := ⟨_, rfl⟩
    have hxl : x.length = 4 := by rw [← hx, List.length_take]; omega
    have hyl : y.length = 4 * m := by rw [← hy, List.length_drop]; omega
    have hxy : t.data.toList = x ++ y := by rw [← hx, ← hy, List.take_append_drop]
    have hex : (t.extract 0 4).data.toList = x := by rw [take_list, hx]
    have hey : (t.extract 4 t.size).data.toList = y := by rw [extract_list, hy]
    obtain ⟨K0, g0⟩ := quad_ev (t.extract 0 4) (by rw [ByteArray.size_extract]; omega) (decide (t.size = 4))
    rw [hex] at g0
    have hlast : decide (t.size = 4) = decide (y = []) := by
      by_cases h : y = []
      · rw [decide_eq_true h, decide_eq_true (by rw [h] at hyl; simp at hyl; omega)]
      · have : 0 < y.length := List.length_pos_iff.2 h
        rw [decide_eq_false h, decide_eq_false (by omega)]
    rw [hlast] at g0
    have hgo : ∀ k n, K0 ≤ k → m + 2 ≤ n → ∃ n', n = n' + 1 ∧ bytesA k n t dn = (if (quadF x (decide (y = []))).2 = true then (if dn.size + (quadF x (decide (y = []))).1.size ≤ 1099511627776 then bytesA k n' (t.extract 4 t.size) (dn ++ (quadF x (decide (y = []))).1) else none) else some (⟨#[]⟩, 2)) := by
      intro k n hk hn
      obtain ⟨n', rfl⟩ : ∃ q, n = q + 1 := ⟨n - 1, by omega⟩
      refine ⟨n', rfl, ?_⟩
      have a0 := g0 k hk
      simp only [] at a0
      rw [bytesA, if_neg (by omega), hlast, a0, Option.bind_some]
    clear g0
    obtain ⟨q, hq⟩ : ∃ q, (quadF x (decide (y = []))).1 = q := ⟨_, rfl⟩
    cases hok : (quadF x (decide (y = []))).2 with
    | false =>
      refine ⟨(⟨#[]⟩, 2), ⟨fun b hb => ?_, fun _ => rfl⟩, K0, fun k n hk hn => ?_⟩
      · rw [hxy] at hb
        have := good_yes _ _ _ (signsL_cut b x y hxl hb).1
        rw [this] at hok
        cases hok
      · obtain ⟨n', rfl, e⟩ := hgo k n hk hn
        rw [e, hok, if_neg (by decide)]
    | true =>
      have hF : quadF x (decide (y = [])) = (q, true) := Prod.ext hq hok
      have hg := good_of x hxl _ q hF
      have hql : q.data.toList.length = q.size := by rw [Array.length_toList]; rfl
      have hq3 := hg.2.2.1
      obtain ⟨res, hres, K1, g1⟩ := bytesA_all m (t.extract 4 t.size) (dn ++ q) (by rw [ByteArray.size_extract]; omega) (by rw [ByteArray.size_append]; omega)
      rw [hey] at hres
      have hdq : (dn ++ q).data.toList = dn.data.toList ++ q.data.toList := by rw [ByteArray.data_append, Array.toList_append]
      refine ⟨res, ⟨fun b hb => ?_, fun hno => ?_⟩, K0 + K1, fun k n hk hn => ?_⟩
      · rw [hxy] at hb
        obtain ⟨c1, c2⟩ := signsL_cut b x y hxl hb
        have c3 := good_yes _ _ _ c1
        rw [hF] at c3
        have c4 : q.data.toList = b.take 3 := by
          have := congrArg (fun z => z.1.data.toList) c3
          simpa using this
        rw [hres.1 (b.drop 3) c2, hdq, List.append_assoc, c4, List.take_append_drop]
      · refine hres.2 fun b hb => ?_
        rcases hg.2.2.2 with h3 | h3
        · refine hno (q.data.toList ++ b) ?_
          rw [signsL_quads _ _ h3, hb, ← hg.1, hxy]
        · have hy0 : y = [] := of_decide_eq_true h3
          refine hno q.data.toList ?_
          rw [signsL_last _ hg.2.1 hq3, ← hg.1, hxy, hy0, List.append_nil]
      · obtain ⟨n', rfl, e⟩ := hgo k n (by omega) hn
        rw [e, hok, if_pos rfl, hq, if_pos (by omega), g1 k n' (by omega) (by omega)]
theorem bytes_ev (t : ByteArray) (ht : t.size ≤ 1000000) : ∃ res, IsB t.data.toList ⟨#[]⟩ res ∧ Ev (fun k => armor_Bytes.f k t) res := by
  have htl : t.data.toList.length = t.size := by rw [Array.length_toList]; rfl
  by_cases h : t.size % 4 = 0
  · obtain ⟨res, hres, K, g⟩ := bytesA_all (t.size / 4) t ⟨#[]⟩ (by omega) (by show 0 + _ ≤ _; omega)
    refine ⟨res, hres, K + t.size + 1, fun k hk => ?_⟩
    show armor_Bytes.f k t = _
    unfold armor_Bytes.f
    rw [if_pos ⟨h, by omega⟩]
    exact g k k (by omega) (by omega)
  · refine ⟨(⟨#[]⟩, 2), ⟨fun b hb => ?_, fun _ => rfl⟩, 0, fun k _ => ?_⟩
    · have := signsL_mod _ b (Nat.le_refl _)
      rw [hb, htl] at this
      exact absurd this h
    · show armor_Bytes.f k t = _
      unfold armor_Bytes.f
      rw [if_neg (fun h' => h h'.1), if_neg h]

end Go.Proofs.YtdaofffedfccmaaDoor.ArmP
