/- Option: what is asked of the library. It has no conditions. -/
import Derived.Shelf.Strings.SlTrimAscii
import Derived.Lib.IndexLaws
import Derived.Test.YtdaofffedfccmaaDoorXShelfO
import Derived.Test.YtdaofffedfccmaaDoorXClock
import Derived.Test.YtdaofffedfccmaaDoorXArm
import Derived.BigRegion
import Derived.RegionTactic
import Derived.ChangeAlike
import Derived.Deep.RegionWith
import Derived.Deep.RegionLaw
import Derived.Laws.Tables
import Derived.Deep.QuietTactic
import Derived.BigQuiet
import Derived.Deep.RegionHeld3
import Derived.Deep.AppendLies
import Derived.Deep.DrawnRows
import Derived.Laws.CopyOwn
import Derived.Deep.MidRow
import Derived.Laws.ResultCell
import Derived.ChangeKeysEq
import Derived.Laws.BitsAllLaws
namespace Go.Proofs.YtdaofffedfccmaaDoor.XGlob
set_option linter.unusedVariables false
set_option linter.unusedSimpArgs false
open Go.RowKit Go.Proofs.YtdaofffedfccmaaDoorW.PrintWords Go.Proofs.YtdaofffedfccmaaDoorW.PrintLast Go.Proofs.YtdaofffedfccmaaDoorW.PrintMore
attribute [local go_sem] max2_int min2_int max_two min_two max_three min_three max_four min_four
/-! ### strings.Cut at one byte. -/
def cutA (s : ByteArray) (c : UInt8) : ByteArray × ByteArray × Bool := if 0 ≤ Lib.indexByte s.data.toList c then (s.extract 0 (Lib.indexByte s.data.toList c).toNat, s.extract ((Lib.indexByte s.data.toList c).toNat + 1) s.size, true) else (s, ⟨#[]⟩, false)
set_option maxHeartbeats 1600000 in
set_option maxRecDepth 100000 in
theorem cut_in (s : ByteArray) (c : UInt8) (w : World) (hs : s.size ≤ 1099511627776) :
    Calls Tryd.prog 149 #[.string s, .string ⟨#[c]⟩] w fun e w' => e = .returned (.tuple #[.string (cutA s c).1, .string (cutA s c).2.1, .bool (cutA s c).2.2]) ∧ Drawn0 w w' := by
  have L := Tryd.lays145
  have hI := fun W => Any.stringslite_Index_one (ρ := Tryd.lays145_ren) { L with } s c W
  have hI2 : ∀ W, Calls Tryd.prog 160 #[.string s, .string ⟨#[c]⟩] W fun e w' => e = .returned (.int .i64 (Lib.indexByte s.data.toList c)) ∧ w' = W := hI
  clear hI L
  have hge := Lib.indexByte_ge s.data.toList c
  by_cases h : 0 ≤ Lib.indexByte s.data.toList c
  · obtain ⟨o, ho⟩ := Int.eq_ofNat_of_zero_le h
    have hlt : o < s.size := by
      have := (Lib.indexByte_some ho).1
      have h2 := (List.getElem?_eq_some_iff.1 this).1
      rw [Array.length_toList] at h2
      exact h2
    have hR : cutA s c = (s.extract 0 o, s.extract (o + 1) s.size, true) := by unfold cutA; rw [if_pos h, ho, Int.toNat_natCast]
    rw [hR]
    rw [ho] at hI2
    have k0 : (0 : Int) ≤ (o : Int) := by omega
    have k1 : (o : Int) ≤ (s.size : Int) := by omega
    have k2 : (o : Int) + 1 ≤ (s.size : Int) := by omega
    have k3 : (0 : Int) ≤ (o : Int) + 1 := by omega
    have k4 : ((o : Int) + 1).toNat = o + 1 := by omega
    have k5 : o ≤ s.size := by omega
    have k6 : o + 1 ≤ s.size := by omega
    clear hge h hR
    go_enter Tryd.func149, Tryd.ntmps149
    go_wp2_with fail
    refine Calls.mono (hI2 _) ?_
    rintro e w1 ⟨rfl, rfl⟩
    clear hI2 ho
    go_wp2
    go_region
    all_goals
      go_wp2
      go_ret3
      refine ⟨by first | rfl | (simp [*]; done), by repeat (first | exact Drawn0.refl _ | apply Drawn0.step)⟩
  · have hR : cutA s c = (s, ⟨#[]⟩, false) := by unfold cutA; rw [if_neg h]
    rw [hR]
    have hm : Lib.indexByte s.data.toList c = -1 := by omega
    rw [hm] at hI2
    clear hge h hR hm
    go_enter Tryd.func149, Tryd.ntmps149
    go_wp2_with fail
    refine Calls.mono (hI2 _) ?_
    rintro e w1 ⟨rfl, rfl⟩
    clear hI2
    go_wp2
    go_ret3
    exact ⟨rfl, Drawn0.refl _⟩
set_option maxHeartbeats 1600000 in
set_option maxRecDepth 100000 in
theorem cut_one (s : ByteArray) (c : UInt8) (w : World) (hs : s.size ≤ 1099511627776) :
    Calls Tryd.prog 118 #[.string s, .string ⟨#[c]⟩] w fun e w' => e = .returned (.tuple #[.string (cutA s c).1, .string (cutA s c).2.1, .bool (cutA s c).2.2]) ∧ Drawn0 w w' := by
  have hC := cut_in s c w hs
  obtain ⟨x, hx⟩ : ∃ x, (cutA s c).1 = x := ⟨_, rfl⟩
  obtain ⟨y, hy⟩ : ∃ x, (cutA s c).2.1 = x := ⟨_, rfl⟩
  obtain ⟨z, hz⟩ : ∃ x, (cutA s c).2.2 = x := ⟨_, rfl⟩
  rw [hx, hy, hz] at hC ⊢
  clear hx hy hz
  go_enter Tryd.func118, Tryd.ntmps118
  go_wp2_with fail
  refine Calls.mono hC ?_
  rintro e w1 ⟨rfl, hd⟩
  go_wp2
  go_ret3
  exact ⟨rfl, hd⟩
/-! ### option: a number's set; a flag. -/
def okDigits (s : ByteArray) (dg : Int) : Bool := !(s.data.toList == []) && (decide ((s.size : Int) ≤ dg) && (Lib.trimS s.data.toList [48, 49, 50, 51, 52, 53, 54, 55, 56, 57] == []))
theorem trim_digits (s : ByteArray) (w : World) (hs : s.size ≤ 1099511627776) :
    Calls Tryd.prog 106 #[.string s, .string ⟨#[48, 49, 50, 51, 52, 53, 54, 55, 56, 57]⟩] w fun e w' => e = .returned (.string ⟨(Lib.trimS s.data.toList [48, 49, 50, 51, 52, 53, 54, 55, 56, 57]).toArray⟩) ∧ Below w.heap.size w w' :=
  Any.strings_Trim_laid Tryd.lays160 (by kernel_rfl) s ⟨#[48, 49, 50, 51, 52, 53, 54, 55, 56, 57]⟩ w (by omega) (by decide) (fun j b hb => ascii_of_all (l := [48, 49, 50, 51, 52, 53, 54, 55, 56, 57]) (by decide) j b hb)
/-- What set answers, and what it stores. -/
def setV (s : ByteArray) (dg mo : Int) : Int ⊕ Int := if okDigits s dg = true then (if atoiV s.data.toList > mo then .inl 7 else .inr (atoiV s.data.toList)) else .inl 2
set_option maxHeartbeats 3200000 in
set_option maxRecDepth 100000 in
theorem set_calls (s : ByteArray) (p off : Nat) (dg mo : Int) (w : World) (hs : s.size ≤ 1000000) (hL : Laid w) (cs : Array Value) (hp : w.heap[p]? = some (.cells cs 116 (0, 0))) (u : Value) (hoff : cs[off]? = some u) :
    Calls Tryd.prog 119 #[.agg #[.pointer (some ⟨p, off, none⟩), .int .i64 dg, .int .i64 mo], .string s] w fun e w' => match setV s dg mo with
      | .inl er => e = .returned (.int .i64 er) ∧ Below w.heap.size w w'
      | .inr v => e = .returned (.int .i64 0) ∧ ∃ w1, Below w.heap.size w w1 ∧ w' = w1.setCell ⟨p, off, none⟩ (.int .i64 v) := by
  have hT := Aside0.mk (fun W => trim_digits s W (by omega))
  have hA := Aside0.mk (fun (W : World) (h : Laid W) => atoi_calls s (by omega) W h)
  have HP := Aside0.mk hp
  have HO := Aside0.mk hoff
  have HLd := Aside0.mk hL
  clear hp hoff hL
  by_cases h0 : s.size = 0
  · have e1 : s.toList = [] := by rw [ByteArray.toList_eq]; exact List.length_eq_zero_iff.1 (by rw [Array.length_toList]; exact h0)
    have e2 : s.toList.isEmpty = true := by simpa using e1
    have hR : setV s dg mo = .inl 2 := by
      have : s.data.toList = [] := by rw [← ByteArray.toList_eq]; exact e1
      unfold setV okDigits
      rw [this]
      rfl
    rw [hR]
    clear hR h0
    go_enter Tryd.func119, Tryd.ntmps119
    go_wp2_with (first | ((with_reducible refine gate_dst (N := 2) rfl ?_); refine box_event rfl (N := 2) rfl (cs := #[.pointer (some ⟨p, off, none⟩), .int .i64 dg, .int .i64 mo]) (t := 136) (by first | (go_simp; done) | (go_simp; rfl)) ?_; intro gb hg w0 hblk hb3; have BK := Aside0.mk hblk; have HB0 := Aside0.mk hb3; clear hg hblk hb3; have z1 : w0.cell? ⟨gb, 1, none⟩ = some (.int .i64 dg) := blk_cell BK.out 1; have z2 : w0.cell? ⟨gb, 2, none⟩ = some (.int .i64 mo) := blk_cell BK.out 2))
    go_ret
    exact ⟨rfl, HB0.out⟩
  · have e1 : ¬ (s.toList = []) := by
      rw [ByteArray.toList_eq]
      intro e
      have := congrArg List.length e
      rw [Array.length_toList] at this
      exact h0 this
    have e2 : s.toList.isEmpty = false := by simpa using e1
    have e3 : ¬ s.data.toList = [] := by rw [← ByteArray.toList_eq]; exact e1
    by_cases hd : (s.size : Int) > dg
    · have d1 : decide ((s.size : Int) > dg) = true := decide_eq_true hd
      have d2 : decide (dg < (s.size : Int)) = true := decide_eq_true hd
      have hR : setV s dg mo = .inl 2 := by
        unfold setV okDigits
        rw [decide_eq_false (show ¬ (s.size : Int) ≤ dg by omega)]
        simp
      rw [hR]
      clear hR h0 e3 hd
      go_enter Tryd.func119, Tryd.ntmps119
      go_wp2_with (first | ((with_reducible refine gate_dst (N := 2) rfl ?_); refine box_event rfl (N := 2) rfl (cs := #[.pointer (some ⟨p, off, none⟩), .int .i64 dg, .int .i64 mo]) (t := 136) (by first | (go_simp; done) | (go_simp; rfl)) ?_; intro gb hg w0 hblk hb3; have BK := Aside0.mk hblk; have HB0 := Aside0.mk hb3; clear hg hblk hb3; have z1 : w0.cell? ⟨gb, 1, none⟩ = some (.int .i64 dg) := blk_cell BK.out 1; have z2 : w0.cell? ⟨gb, 2, none⟩ = some (.int .i64 mo) := blk_cell BK.out 2))
      go_ret
      exact ⟨rfl, HB0.out⟩
    · have d1 : decide ((s.size : Int) > dg) = false := decide_eq_false hd
      have d2 : decide (dg < (s.size : Int)) = false := decide_eq_false hd
      obtain ⟨T, hTe⟩ : ∃ T, Lib.trimS s.data.toList [48, 49, 50, 51, 52, 53, 54, 55, 56, 57] = T := ⟨_, rfl⟩
      rw [hTe] at hT
      obtain ⟨tb, htb⟩ : ∃ tb : ByteArray, (⟨T.toArray⟩ : ByteArray) = tb := ⟨_, rfl⟩
      have htl : tb.toList = T := by rw [← htb, ByteArray.toList_eq]
      rw [htb] at hT
      have hval : setV s dg mo = if T = [] then (if atoiV s.data.toList > mo then .inl 7 else .inr (atoiV s.data.toList)) else .inl 2 := by
        unfold setV okDigits
        rw [hTe, decide_eq_true (show (s.size : Int) ≤ dg by omega), beq_eq_false_iff_ne.mpr e3]
        by_cases h : T = []
        · rw [if_pos h, h]; rfl
        · rw [if_neg h, beq_eq_false_iff_ne.mpr h]; rfl
      by_cases hT0 : T = []
      · rw [if_pos hT0] at hval
        have f1 : tb.toList = [] := htl.trans hT0
        have f2 : tb.toList.isEmpty = true := by simpa using f1
        obtain ⟨v, hv⟩ : ∃ v, atoiV s.data.toList = v := ⟨_, rfl⟩
        rw [hv] at hval hA
        by_cases hm : v > mo
        · rw [if_pos hm] at hval
          rw [hval]
          have d3 : decide (v > mo) = true := decide_eq_true hm
          have d4 : decide (mo < v) = true := decide_eq_true hm
          clear hval hTe htb htl hT0 h0 e3 hd hm
          go_enter Tryd.func119, Tryd.ntmps119
          go_wp2_with (first | ((with_reducible refine gate_dst (N := 2) rfl ?_); refine box_event rfl (N := 2) rfl (cs := #[.pointer (some ⟨p, off, none⟩), .int .i64 dg, .int .i64 mo]) (t := 136) (by first | (go_simp; done) | (go_simp; rfl)) ?_; intro gb hg w0 hblk hb3; have BK := Aside0.mk hblk; have HB0 := Aside0.mk hb3; clear hg hblk hb3; have z1 : w0.cell? ⟨gb, 1, none⟩ = some (.int .i64 dg) := blk_cell BK.out 1; have z2 : w0.cell? ⟨gb, 2, none⟩ = some (.int .i64 mo) := blk_cell BK.out 2))
          refine Calls.mono (hT.out _) ?_
          rintro e w1 ⟨rfl, b1⟩
          have B1 := Aside0.mk (below_step HB0.out b1)
          have BK1 := Aside0.mk (blk_below BK.out b1)
          clear z1 z2 b1 BK HB0
          go_wp2_with fail
          refine Calls.mono (hA.out _ (HLd.out.below B1.out)) ?_
          rintro e w2 ⟨⟨ev, rfl⟩, b2⟩
          have B2 := Aside0.mk (below_step B1.out b2)
          have z2 : w2.cell? ⟨gb, 2, none⟩ = some (.int .i64 mo) := blk_cell (blk_below BK1.out b2) 2
          have z0 : w2.cell? ⟨gb, 0, none⟩ = some (.pointer (some ⟨p, off, none⟩)) := blk_cell (blk_below BK1.out b2) 0
          have hpb := blk_below HP.out B2.out
          have c1 : w2.cell? ⟨p, off, none⟩ = some u := (blk_cell hpb off).trans HO.out
          have c2 := blk_frozen hpb off
          clear b2 hpb
          go_wp2
          go_ret
          exact ⟨rfl, B2.out⟩
        · rw [if_neg hm] at hval
          rw [hval]
          have d3 : decide (v > mo) = false := decide_eq_false hm
          have d4 : decide (mo < v) = false := decide_eq_false hm
          clear hval hTe htb htl hT0 h0 e3 hd hm
          go_enter Tryd.func119, Tryd.ntmps119
          go_wp2_with (first | ((with_reducible refine gate_dst (N := 2) rfl ?_); refine box_event rfl (N := 2) rfl (cs := #[.pointer (some ⟨p, off, none⟩), .int .i64 dg, .int .i64 mo]) (t := 136) (by first | (go_simp; done) | (go_simp; rfl)) ?_; intro gb hg w0 hblk hb3; have BK := Aside0.mk hblk; have HB0 := Aside0.mk hb3; clear hg hblk hb3; have z1 : w0.cell? ⟨gb, 1, none⟩ = some (.int .i64 dg) := blk_cell BK.out 1; have z2 : w0.cell? ⟨gb, 2, none⟩ = some (.int .i64 mo) := blk_cell BK.out 2))
          refine Calls.mono (hT.out _) ?_
          rintro e w1 ⟨rfl, b1⟩
          have B1 := Aside0.mk (below_step HB0.out b1)
          have BK1 := Aside0.mk (blk_below BK.out b1)
          clear z1 z2 b1 BK HB0
          go_wp2_with fail
          refine Calls.mono (hA.out _ (HLd.out.below B1.out)) ?_
          rintro e w2 ⟨⟨ev, rfl⟩, b2⟩
          have B2 := Aside0.mk (below_step B1.out b2)
          have z2 : w2.cell? ⟨gb, 2, none⟩ = some (.int .i64 mo) := blk_cell (blk_below BK1.out b2) 2
          have z0 : w2.cell? ⟨gb, 0, none⟩ = some (.pointer (some ⟨p, off, none⟩)) := blk_cell (blk_below BK1.out b2) 0
          have hpb := blk_below HP.out B2.out
          have c1 : w2.cell? ⟨p, off, none⟩ = some u := (blk_cell hpb off).trans HO.out
          have c2 := blk_frozen hpb off
          clear b2 hpb
          go_wp2
          go_ret
          exact ⟨rfl, _, B2.out, rfl⟩
      · rw [if_neg hT0] at hval
        rw [hval]
        have f1 : ¬ tb.toList = [] := by rw [htl]; exact hT0
        have f2 : tb.toList.isEmpty = false := by simpa using f1
        clear hval hTe htb htl hT0 h0 e3 hd
        go_enter Tryd.func119, Tryd.ntmps119
        go_wp2_with (first | ((with_reducible refine gate_dst (N := 2) rfl ?_); refine box_event rfl (N := 2) rfl (cs := #[.pointer (some ⟨p, off, none⟩), .int .i64 dg, .int .i64 mo]) (t := 136) (by first | (go_simp; done) | (go_simp; rfl)) ?_; intro gb hg w0 hblk hb3; have BK := Aside0.mk hblk; have HB0 := Aside0.mk hb3; clear hg hblk hb3; have z1 : w0.cell? ⟨gb, 1, none⟩ = some (.int .i64 dg) := blk_cell BK.out 1; have z2 : w0.cell? ⟨gb, 2, none⟩ = some (.int .i64 mo) := blk_cell BK.out 2))
        refine Calls.mono (hT.out _) ?_
        rintro e w1 ⟨rfl, b1⟩
        have B1 := Aside0.mk (below_step HB0.out b1)
        clear z1 z2 b1 BK HB0
        go_wp2
        go_ret
        exact ⟨rfl, B1.out⟩
/-! ### A flag. -/
def flagV (s : ByteArray) : Int := if s.toList = [114, 101, 117, 115, 101] then 1 else if s.toList = [115, 104, 97, 114, 101] then 2 else if s.toList = [119, 105, 100, 101] then 3 else 0
set_option maxHeartbeats 3200000 in
set_option maxRecDepth 100000 in
theorem flag_calls (s : ByteArray) (p : Nat) (w : World) (a0 a1 a2 a3 a4 a5 a6 : Value) (hp : w.heap[p]? = some (.cells #[a0, a1, a2, a3, a4, a5, a6] 116 (0, 0))) :
    Calls Tryd.prog 120 #[.pointer (some ⟨p, 0, none⟩), .string s] w fun e w' => (flagV s = 0 ∧ e = .returned (.int .i64 2) ∧ w' = w) ∨ (∃ i : Nat, (i = 1 ∨ i = 2 ∨ i = 3) ∧ flagV s = (i : Int) ∧ e = .returned (.int .i64 0) ∧ w' = w.setCell ⟨p, i, none⟩ (.bool true)) := by
  have r1 : w.cell? ⟨p, 1, none⟩ = some a1 := blk_cell hp 1
  have r2 : w.cell? ⟨p, 2, none⟩ = some a2 := blk_cell hp 2
  have r3 : w.cell? ⟨p, 3, none⟩ = some a3 := blk_cell hp 3
  have q1 := blk_frozen hp 1
  have q2 := blk_frozen hp 2
  have q3 := blk_frozen hp 3
  clear hp
  by_cases h1 : s.toList = [114, 101, 117, 115, 101]
  · have g1 : (s.toList == [114, 101, 117, 115, 101]) = true := beq_iff_eq.mpr h1
    have hR : flagV s = 1 := by unfold flagV; rw [if_pos h1]
    have HR := Aside0.mk hR
    clear hR h1
    go_enter Tryd.func120, Tryd.ntmps120
    go_wp2
    go_ret
    exact .inr ⟨1, .inl rfl, HR.out, rfl, rfl⟩
  · have g1 : (s.toList == [114, 101, 117, 115, 101]) = false := beq_eq_false_iff_ne.mpr h1
    by_cases h2 : s.toList = [115, 104, 97, 114, 101]
    · have g2 : (s.toList == [115, 104, 97, 114, 101]) = true := beq_iff_eq.mpr h2
      have hR : flagV s = 2 := by unfold flagV; rw [if_neg h1, if_pos h2]
      have HR := Aside0.mk hR
      clear hR h1 h2
      go_enter Tryd.func120, Tryd.ntmps120
      go_wp2
      go_ret
      exact .inr ⟨2, .inr (.inl rfl), HR.out, rfl, rfl⟩
    · have g2 : (s.toList == [115, 104, 97, 114, 101]) = false := beq_eq_false_iff_ne.mpr h2
      by_cases h3 : s.toList = [119, 105, 100, 101]
      · have g3 : (s.toList == [119, 105, 100, 101]) = true := beq_iff_eq.mpr h3
        have hR : flagV s = 3 := by unfold flagV; rw [if_neg h1, if_neg h2, if_pos h3]
        have HR := Aside0.mk hR
        clear hR h1 h2 h3
        go_enter Tryd.func120, Tryd.ntmps120
        go_wp2
        go_ret
        exact .inr ⟨3, .inr (.inr rfl), HR.out, rfl, rfl⟩
      · have g3 : (s.toList == [119, 105, 100, 101]) = false := beq_eq_false_iff_ne.mpr h3
        have hR : flagV s = 0 := by unfold flagV; rw [if_neg h1, if_neg h2, if_neg h3]
        have HR := Aside0.mk hR
        clear hR h1 h2 h3
        go_enter Tryd.func120, Tryd.ntmps120
        go_wp2
        go_ret
        exact .inl ⟨HR.out, rfl, rfl⟩

end Go.Proofs.YtdaofffedfccmaaDoor.XGlob
