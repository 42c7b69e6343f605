/- Armor: Decode of what Encode makes It has no conditions. -/
import Derived.Test.YtdaofffedfccmaaDoorYArm11
import Derived.BigRegion
import Derived.RegionTactic
import Derived.ChangeAlike
import Derived.Deep.RegionWith
import Derived.Deep.RegionLaw
import Derived.Laws.Tables
import Derived.Deep.QuietTactic
import Derived.BigQuiet
import Derived.Deep.RegionHeld3
import Derived.Deep.AppendLies
import Derived.Deep.DrawnRows
import Derived.Laws.CopyOwn
import Derived.Deep.MidRow
import Derived.Laws.ResultCell
import Derived.ChangeKeysEq
import Derived.Laws.BitsAllLaws
namespace Go.Proofs.YtdaofffedfccmaaDoor.ArmP
set_option linter.unusedVariables false
set_option linter.unusedSimpArgs false
open Go.RowKit Go.Proofs.YtdaofffedfccmaaDoorW.PrintWords Go.Proofs.YtdaofffedfccmaaDoorW.PrintLast Go.Proofs.YtdaofffedfccmaaDoorW.PrintMore
attribute [local go_sem] max2_int min2_int max_two min_two max_three min_three max_four min_four
open XArmorSigns XGlob
/-! ### Decode, of what Encode makes. -/
theorem trimSuf (X p : List UInt8) : Lib.hasSuffix (X ++ p) p = true ∧ Lib.trimSuffix (X ++ p) p = X := by
  have h : Lib.hasSuffix (X ++ p) p = true := by
    unfold Lib.hasSuffix
    exact List.isSuffixOf_iff_suffix.2 (List.suffix_append X p)
  refine ⟨h, ?_⟩
  unfold Lib.trimSuffix
  rw [if_pos h, List.length_append, Nat.add_sub_cancel, List.take_left]
theorem trimPre (p X : List UInt8) : Lib.hasPrefix (p ++ X) p = true ∧ Lib.trimPrefix (p ++ X) p = X := by
  have h : Lib.hasPrefix (p ++ X) p = true := by
    unfold Lib.hasPrefix
    exact List.isPrefixOf_iff_prefix.2 (List.prefix_append p X)
  refine ⟨h, ?_⟩
  unfold Lib.trimPrefix
  rw [if_pos h, List.drop_left]
theorem wide_ok (n : Nat) (h : 4 ≤ n ∧ n ≤ 76 ∧ n % 4 = 0) : armor_wide.f (n : Int) = some true := by
  unfold armor_wide.f
  rw [if_pos (by omega), if_pos (by omega), Int.tmod_eq_emod_of_nonneg (by omega), show (n : Int) % 4 = 0 by omega]
  rfl
theorem rdOf_mk (L : List (List UInt8)) (i : Nat) (p : List UInt8) (h : L[i]? = some p) : rdOf ByteArray.empty (L.map mk) (i : Int) = mk p := by
  unfold rdOf
  rw [Int.toNat_natCast, List.getD_eq_getElem?_getD, List.getElem?_map, h]
  rfl
theorem size_mk (l : List UInt8) : (mk l).size = l.length := rfl
theorem even_l0 (W : Nat) (hW : W ≤ 76) (L : List (List UInt8)) (hL : chP W L) (hn : L.length ≤ 1000000) : ∀ (e i : Nat), i + e = L.length → Ev (fun k => armor_even.l0 k (L.map mk) (L.map mk) (L.length : Int) (i : Int)) true
  | 0, i, he => by
    refine Ev.step (f := fun _ => some true) (fun k => ?_) (Ev.now _)
    rw [armor_even.l0, if_neg (by omega)]
  | e + 1, i, he => by
    have hlt : i < L.length := by omega
    have h0 : 0 < L.length := by omega
    obtain ⟨p, hp⟩ : ∃ p, L[i]? = some p := ⟨_, List.getElem?_eq_getElem hlt⟩
    obtain ⟨q, hq⟩ : ∃ q, L[0]? = some q := ⟨_, List.getElem?_eq_getElem h0⟩
    have cp := hL i p hp
    have cq := hL 0 q hq
    have r1 := rdOf_mk L i p hp
    have r2 : rdOf ByteArray.empty (L.map mk) 0 = mk q := rdOf_mk L 0 q hq
    have hml : ((L.map mk).length : Int) = (L.length : Int) := by rw [List.length_map]
    have hle : p.length ≤ q.length := by
      by_cases h1 : 0 + 1 < L.length
      · rw [cq.2 h1]; exact cp.1.2.1
      · have : i = 0 := by omega
        subst this
        rw [hp] at hq
        rw [Option.some.inj hq]
        exact Nat.le_refl _
    have hw := wide_ok p.length ⟨cp.1.1, by omega, cp.1.2.2⟩
    have ih := even_l0 W hW L hL hn e (i + 1) (by omega)
    have e1 := w_1 i (by omega)
    have q1 : (i : Int) < (L.length : Int) := by omega
    have q2 : (0 : Int) ≤ (i : Int) := by omega
    have q3 : (0 : Int) < (L.length : Int) := by omega
    have q4 : ¬ ((mk p).size : Int) > ((mk q).size : Int) := by rw [size_mk, size_mk]; omega
    refine Ev.step (fun k => ?_) ih
    by_cases h1 : i + 1 < L.length
    · have q5 : ((i + 1 : Nat) : Int) < (L.length : Int) := by omega
      have q6 : ((mk p).size : Int) = ((mk q).size : Int) := by rw [size_mk, size_mk, cp.2 h1, cq.2 (by omega)]
      rw [armor_even.l0, if_pos q1, if_pos q2, hml, if_pos q1, e1, if_pos q5, if_pos q3, r1, r2, if_pos q6, if_neg q4, size_mk, hw, Option.bind_some, if_pos rfl]
    · have q5 : ¬ ((i + 1 : Nat) : Int) < (L.length : Int) := by omega
      rw [armor_even.l0, if_pos q1, if_pos q2, hml, if_pos q1, e1, if_neg q5, if_pos q3, r1, r2, if_neg q4, size_mk, hw, Option.bind_some, if_pos rfl]
theorem even_ev (W : Nat) (hW : W ≤ 76) (L : List (List UInt8)) (hL : chP W L) (hn : L.length ≤ 1000000) : Ev (fun k => armor_even.f k (L.map mk)) true := by
  refine Ev.congr (fun k => ?_) (even_l0 W hW L hL hn L.length 0 (by omega))
  unfold armor_even.f
  rw [List.length_map]
  rfl
theorem cut_ok (a nm z : List UInt8) (ha : a.length ≤ 100) (hn : nm.length ≤ 100) (hz : z.length ≤ 100) : armor_cut.f (mk (a ++ nm ++ z)) (mk a) (mk z) = some (mk nm, true) := by
  have h1 := trimPre a (nm ++ z)
  have h2 := trimSuf nm z
  have e1 : strings_CutPrefix.f (mk (a ++ nm ++ z)) (mk a) = some (mk (nm ++ z), true) := by
    unfold strings_CutPrefix.f
    rw [if_pos (by rw [size_mk, List.length_append, List.length_append]; omega)]
    show some (mk (Lib.trimPrefix (a ++ nm ++ z) a), Lib.hasPrefix (a ++ nm ++ z) a) = _
    rw [List.append_assoc, h1.1, h1.2]
  have e2 : strings_CutSuffix.f (mk (nm ++ z)) (mk z) = some (mk nm, true) := by
    unfold strings_CutSuffix.f
    rw [if_pos (by rw [size_mk, List.length_append]; omega)]
    show some (mk (Lib.trimSuffix (nm ++ z) z), Lib.hasSuffix (nm ++ z) z) = _
    rw [h2.1, h2.2]
  unfold armor_cut.f
  rw [e1, Option.bind_some, e2, Option.bind_some, if_pos rfl]
theorem join_nil : ∀ (L : List (List UInt8)), Lib.join L [] = L.flatten
  | [] => rfl
  | x :: r => by
    rw [Lib.join_cons, List.flatten_cons]
    congr 1
    unfold Lib.joinTail
    congr 1
    conv => rhs; rw [← List.map_id r]
    exact List.map_congr_left fun _ _ => rfl
def begL : List UInt8 := [45, 45, 45, 45, 45, 66, 69, 71, 73, 78, 32]
def endL : List UInt8 := [45, 45, 45, 45, 45, 69, 78, 68, 32]
def tailL : List UInt8 := [45, 45, 45, 45, 45]
/-- The text that Encode makes, in parts. -/
theorem enc_text (nm : ByteArray) (S G : List UInt8) (W : Nat) : (encA nm (mk S) (mk G) W) = mk ((begL ++ nm.data.toList ++ tailL ++ 10 :: (((ch W G.length G).map (· ++ [10])).flatten ++ (S ++ 10 :: (endL ++ nm.data.toList ++ tailL)))) ++ [10]) := by
  apply ByteArray.ext
  apply Array.toList_inj.1
  show (headA nm).data.toList ++ linesA W G.length G ++ (footA nm (mk S)).data.toList = _
  rw [lines_ch]
  simp [headA, footA, begB, endB, tailB, nlB, mk, begL, endL, tailL, ByteArray.data_append]
theorem ch_mem (W : Nat) (hW : 1 ≤ W) (l : List UInt8) (p : List UInt8) (hp : p ∈ ch W l.length l) (x : UInt8) (hx : x ∈ p) : x ∈ l := by
  have := ch_flat W hW l.length l (Nat.le_refl _)
  rw [← this]
  exact List.mem_flatten.2 ⟨p, hp, hx⟩
theorem decode_ev (s nm : ByteArray) (W n : Nat) (hs : s.size ≤ 300) (hW : 4 ≤ W) (hW2 : W ≤ 76) (hW4 : W % 4 = 0) (hok : nameOK nm.data.toList) (hsum : armor_sum.f s = some (mk (61 :: signsL (bytes3 n)))) :
    Ev (fun k => armor_Decode.f k (encA nm (mk (61 :: signsL (bytes3 n))) (mk (signsL s.data.toList)) W)) (s, nm, 0) := by
  have hsl : s.data.toList.length = s.size := by rw [Array.length_toList]; rfl
  have hnl : nm.data.toList.length = nm.size := by rw [Array.length_toList]; rfl
  obtain ⟨G, hG⟩ : ∃ G, signsL s.data.toList = G := ⟨_, rfl⟩
  have hGlen : G.length ≤ 1200 := by
    have := signsL_len _ s.data.toList (Nat.le_refl _)
    rw [hG] at this
    omega
  have hG4 : G.length % 4 = 0 := by
    have := signsL_mod _ s.data.toList (Nat.le_refl _)
    rw [hG] at this
    exact this
  have hGnl : 10 ∉ G := by
    have := signs_nl _ s.data.toList (Nat.le_refl _)
    rw [hG] at this
    exact this
  obtain ⟨Z, hZ⟩ : ∃ Z, signsL (bytes3 n) = Z := ⟨_, rfl⟩
  have hZ4 : Z.length = 4 := by
    rw [← hZ, signsL_last _ (by simp [bytes3]) (by simp [bytes3])]
    rfl
  have hZnl : 10 ∉ Z := by
    have := signs_nl _ (bytes3 n) (Nat.le_refl _)
    rw [hZ] at this
    exact this
  rw [hZ] at hsum
  rw [hG, hZ]
  obtain ⟨L, hL⟩ : ∃ L, ch W G.length G = L := ⟨_, rfl⟩
  have hLP : chP W L := by rw [← hL]; exact ch_even W hW hW4 _ G hG4
  have hLn : L.length ≤ 1200 := by rw [← hL]; exact Nat.le_trans (ch_len W (by omega) _ G) hGlen
  have hLf : L.flatten = G := by rw [← hL]; exact ch_flat W (by omega) _ G (Nat.le_refl _)
  have hLnl : ∀ p ∈ L, 10 ∉ p := fun p hp hx => hGnl (ch_mem W (by omega) G p (by rw [hL]; exact hp) 10 hx)
  have hnn : 10 ∉ nm.data.toList := fun hx => by have := (hok.2.2 10 hx).1; have h10 : (10 : UInt8).toNat = 10 := rfl; omega
  have hH : 10 ∉ begL ++ nm.data.toList ++ tailL := by
    intro hx
    rcases List.mem_append.1 hx with hx | hx
    · rcases List.mem_append.1 hx with hx | hx
      · revert hx; decide
      · exact hnn hx
    · revert hx; decide
  have hF : 10 ∉ endL ++ nm.data.toList ++ tailL := by
    intro hx
    rcases List.mem_append.1 hx with hx | hx
    · rcases List.mem_append.1 hx with hx | hx
      · revert hx; decide
      · exact hnn hx
    · revert hx; decide
  have hS : 10 ∉ 61 :: Z := by
    intro hx
    rcases List.mem_cons.1 hx with hx | hx
    · revert hx; decide
    · exact hZnl hx
  rw [enc_text, hL]
  obtain ⟨X, hX⟩ : ∃ X, begL ++ nm.data.toList ++ tailL ++ 10 :: ((L.map (· ++ [10])).flatten ++ ((61 :: Z) ++ 10 :: (endL ++ nm.data.toList ++ tailL))) = X := ⟨_, rfl⟩
  have hsp : sp X = (begL ++ nm.data.toList ++ tailL) :: (L ++ [61 :: Z, endL ++ nm.data.toList ++ tailL]) := by
    rw [← hX, sp_cut _ _ hH, sp_lines L _ hLnl, sp_cut _ _ hS, sp_whole _ hF]
  have hXlen : X.length ≤ 1000000 := by
    have h30 := hok.2.1
    have hfl : (L.map (· ++ [10])).flatten.length = L.flatten.length + L.length := by
      clear hLP hLn hLf hLnl hX hsp hL
      induction L with
      | nil => rfl
      | cons p L ih =>
        simp only [List.map_cons, List.flatten_cons, List.length_append, List.length_cons, List.length_nil, ih]
        omega
    rw [← hX]
    simp only [List.length_append, List.length_cons, hfl, hLf, begL, tailL, endL, List.length_nil]
    omega
  rw [hX]
  have c1 : strings_CutSuffix.f (mk (X ++ [10])) ⟨#[10]⟩ = some (mk X, true) := by
    unfold strings_CutSuffix.f
    rw [if_pos (by rw [size_mk, List.length_append]; simp only [List.length_singleton]; omega)]
    show some (mk (Lib.trimSuffix (X ++ [10]) [10]), Lib.hasSuffix (X ++ [10]) [10]) = _
    rw [(trimSuf X [10]).1, (trimSuf X [10]).2]
  have c2 : strings_Split.f (mk X) ⟨#[10]⟩ = some ((sp X).map mk) := by
    unfold strings_Split.f
    rw [if_pos ⟨rfl, by rw [size_mk]; omega⟩, parts_split]
    rfl
  rw [hsp] at c2
  obtain ⟨H, hHe⟩ : ∃ H, begL ++ nm.data.toList ++ tailL = H := ⟨_, rfl⟩
  obtain ⟨F, hFe⟩ : ∃ F, endL ++ nm.data.toList ++ tailL = F := ⟨_, rfl⟩
  have cH : armor_cut.f (mk H) ⟨#[45, 45, 45, 45, 45, 66, 69, 71, 73, 78, 32]⟩ ⟨#[45, 45, 45, 45, 45]⟩ = some (nm, true) := by
    have := cut_ok begL nm.data.toList tailL (by decide) (by have := hok.2.1; omega) (by decide)
    rw [hHe, mk_data] at this
    exact this
  have cF : armor_cut.f (mk F) ⟨#[45, 45, 45, 45, 45, 69, 78, 68, 32]⟩ ⟨#[45, 45, 45, 45, 45]⟩ = some (nm, true) := by
    have := cut_ok endL nm.data.toList tailL (by decide) (by have := hok.2.1; omega) (by decide)
    rw [hFe, mk_data] at this
    exact this
  rw [hHe, hFe] at c2
  obtain ⟨P, hP⟩ : ∃ P, P = H :: (L ++ [61 :: Z, F]) := ⟨_, rfl⟩
  rw [← hP] at c2
  have hPl : P.length = L.length + 3 := by rw [hP, List.length_cons, List.length_append]; rfl
  have hml : ((P.map mk).length : Int) = ((L.length + 3 : Nat) : Int) := by rw [List.length_map, hPl]
  have r0 : rdOf ByteArray.empty (P.map mk) 0 = mk H := rdOf_mk P 0 H (by rw [hP]; rfl)
  have r1 : rdOf ByteArray.empty (P.map mk) ((L.length + 1 : Nat) : Int) = mk (61 :: Z) := rdOf_mk P (L.length + 1) (61 :: Z) (by rw [hP, List.getElem?_cons_succ, List.getElem?_append_right (Nat.le_refl _), Nat.sub_self]; rfl)
  have r2 : rdOf ByteArray.empty (P.map mk) ((L.length + 2 : Nat) : Int) = mk F := rdOf_mk P (L.length + 2) F (by rw [hP, List.getElem?_cons_succ, List.getElem?_append_right (by omega), show L.length + 1 - L.length = 1 by omega]; rfl)
  have hmid : ((P.map mk).take (L.length + 1)).drop 1 = L.map mk := by
    rw [hP, List.map_cons, List.take_succ_cons, List.map_append, List.take_left' (by rw [List.length_map])]
    rfl
  clear hX hsp hXlen hP hH hF hS hHe hFe hLnl hnn hGnl hZnl
  have w1 : wrap64 (((L.length + 3 : Nat) : Int) - 1) = ((L.length + 2 : Nat) : Int) := by rw [w64c (by omega) (by omega)]; omega
  have w2 : wrap64 (((L.length + 2 : Nat) : Int) - 1) = ((L.length + 1 : Nat) : Int) := by rw [w64c (by omega) (by omega)]; omega
  have W1 := Aside0.mk w1
  have W2 := Aside0.mk w2
  clear w1 w2
  have hright : armor_right.f nm = some true := by
    classical
    have h30 := hok.2.1
    rw [right_f nm (by omega), decide_eq_true hok]
  obtain ⟨K1, g1⟩ := even_ev W hW2 L hLP (by omega)
  obtain ⟨b1, i1, K2, g2⟩ := bytes_ev (mk G) (by rw [size_mk]; omega)
  have i1 := i1.1 s.data.toList hG
  rw [show (⟨#[]⟩ : ByteArray).data.toList ++ s.data.toList = s.data.toList from rfl, show (⟨s.data.toList.toArray⟩ : ByteArray) = s from rfl] at i1
  obtain ⟨b2, i2, K3, g3⟩ := bytes_ev (mk Z) (by rw [size_mk]; omega)
  have i2 := i2.1 (bytes3 n) hZ
  rw [show (⟨#[]⟩ : ByteArray).data.toList ++ bytes3 n = bytes3 n from rfl] at i2
  rw [i1] at g2
  rw [i2] at g3
  have cJ : strings_Join.f (L.map mk) ⟨#[]⟩ = some (mk G) := by
    unfold strings_Join.f
    have e : (L.map mk).map (·.data.toList) = L := by
      rw [List.map_map]
      conv => rhs; rw [← List.map_id L]
      exact List.map_congr_left fun _ _ => rfl
    have ej : Lib.join ((L.map mk).map (·.data.toList)) (⟨#[]⟩ : ByteArray).data.toList = G := by rw [e]; exact (join_nil L).trans hLf
    rw [ej, if_pos ⟨by rw [List.length_map]; omega, by omega⟩]
    rfl
  have cP : strings_CutPrefix.f (mk (61 :: Z)) ⟨#[61]⟩ = some (mk Z, true) := by
    unfold strings_CutPrefix.f
    rw [if_pos (by rw [size_mk, List.length_cons]; omega)]
    show some (mk (Lib.trimPrefix ([61] ++ Z) [61]), Lib.hasPrefix ([61] ++ Z) [61]) = _
    rw [(trimPre [61] Z).1, (trimPre [61] Z).2]
  have q0 : (0 : Int) < ((L.length + 3 : Nat) : Int) := by omega
  have q1 : (0 : Int) ≤ ((L.length + 2 : Nat) : Int) := by omega
  have q2 : ((L.length + 2 : Nat) : Int) < ((L.length + 3 : Nat) : Int) := by omega
  have q3 : (1 : Int) ≤ ((L.length + 1 : Nat) : Int) := by omega
  have q4 : ((L.length + 1 : Nat) : Int) ≤ ((L.length + 3 : Nat) : Int) := by omega
  have q5 : (0 : Int) ≤ ((L.length + 1 : Nat) : Int) := by omega
  have q6 : ((L.length + 1 : Nat) : Int) < ((L.length + 3 : Nat) : Int) := by omega
  have q7 : ¬ ((L.length + 3 : Nat) : Int) < 3 := by omega
  have w1 := W1.out
  have w2 := W2.out
  refine ⟨K1 + K2 + K3 + 3, fun N hN => ?_⟩
  obtain ⟨k, rfl⟩ : ∃ k, N = k + 3 := ⟨N - 3, by clear w1 w2; omega⟩
  have a1 := g1 (k + 2) (by clear w1 w2; omega)
  have a2 := g2 (k + 1) (by clear w1 w2; omega)
  have a3 := g3 (k + 1) (by clear w1 w2; omega)
  clear g1 g2 g3
  simp only [] at a1 a2 a3
  show armor_Decode.f (k + 3) (mk (X ++ [10])) = _
  unfold armor_Decode.f
  rw [c1, Option.bind_some]
  simp only []
  rw [c2, Option.bind_some, if_pos trivial, hml, decide_eq_false q7]
  show armor_Decode.j0 (k + 2 + 1) (P.map mk) false = _
  rw [armor_Decode.j0, if_neg (by decide), hml, if_pos q0, r0, cH, Option.bind_some, w1, if_pos q1, if_pos q2, r2, cF, Option.bind_some]
  simp only [↓reduceIte]
  rw [hright, Option.bind_some, if_pos rfl, w2, if_pos q3, if_pos q4, Int.toNat_natCast, hmid, a1, Option.bind_some]
  show armor_Decode.j1 (k + 1 + 1) (P.map mk) ((L.length + 2 : Nat) : Int) nm false = _
  rw [armor_Decode.j1, if_neg (by decide), w2, if_pos q3, hml, if_pos q4, Int.toNat_natCast, hmid, cJ, Option.bind_some, a2, Option.bind_some, if_pos q5, if_pos q6, r1, cP, Option.bind_some]
  simp only []
  rw [a3, Option.bind_some]
  simp only [↓reduceIte]
  show armor_Decode.j2 (k + 1) (P.map mk) ((L.length + 2 : Nat) : Int) nm s (((⟨(bytes3 n).toArray⟩ : ByteArray).size : Int) != 3) = _
  rw [show (((⟨(bytes3 n).toArray⟩ : ByteArray).size : Int) != 3) = false from rfl, armor_Decode.j2, if_neg (by decide), w2, if_pos q5, hml, if_pos q6, hsum, Option.bind_some, r1, if_pos rfl]

end Go.Proofs.YtdaofffedfccmaaDoor.ArmP
