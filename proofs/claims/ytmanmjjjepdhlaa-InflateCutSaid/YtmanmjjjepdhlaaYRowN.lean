/- rows of numbers It has no conditions. -/
import Derived.Test.YtmanmjjjepdhlaaYIB
import Derived.BigRegion
import Derived.RegionTactic
import Derived.ChangeAlike
import Derived.Deep.RegionWith
import Derived.Deep.RegionLaw
import Derived.Laws.Tables
import Derived.Deep.QuietTactic
import Derived.BigQuiet
import Derived.Deep.RegionHeld3
import Derived.Deep.AppendLies
import Derived.Deep.DrawnRows
import Derived.Laws.CopyOwn
import Derived.Deep.MidRow
import Derived.Laws.ResultCell
import Derived.ChangeKeysEq
import Derived.Laws.BitsAllLaws
namespace Go.Proofs.Ytmanmjjjepdhlaa.XPrefix
set_option linter.unusedVariables false
set_option linter.unusedSimpArgs false
open Go.RowKit Go.Proofs.YtmanmjjjepdhlaaW.PrintWords Go.Proofs.YtmanmjjjepdhlaaW.PrintLast Go.Proofs.YtmanmjjjepdhlaaW.PrintMore
attribute [local go_sem] max2_int min2_int max_two min_two max_three min_three max_four min_four
open XInflateAny XTok
/-- A row of numbers in a block of its own type. -/
def RowN (W : World) (A : Option Addr) (l : List Int) : Prop := Kd.C (Kd.int .i64) W A l.length l ∧ ∃ k o, A = some ⟨k, o, none⟩ ∧ ∃ cells, W.heap[k]? = some (.cells cells 3 (0, 0))
theorem RowN.keep {W W1 : World} {A : Option Addr} {l : List Int} (h : RowN W A l) (hm : ∀ k, k < W.heap.size → (∃ cells, W.heap[k]? = some (.cells cells 3 (0, 0))) → W1.heap[k]? = W.heap[k]?) : RowN W1 A l := by
 obtain ⟨h1, k, o, rfl, cells, hc⟩ := h
 have e := hm k (blk_lt hc) ⟨cells, hc⟩
 refine ⟨⟨h1.1, h1.2.1, fun hn => ?_⟩, k, o, rfl, cells, e.trans hc⟩
 obtain ⟨ad, ea, hr⟩ := h1.2.2 hn
 injection ea with ea
 subst ea
 refine ⟨_, rfl, fun j p hj => ?_⟩
 obtain ⟨c, hs, hk, hcell⟩ := hr j p hj
 refine ⟨c, hs, hk, fun i u hu => ?_⟩
 have := hcell i u hu
 have hbk : ∀ n, ((⟨k, o, none⟩ : Addr).add n).block = k := fun n => by unfold Addr.add; split <;> rfl
 unfold World.cell? at this ⊢
 rw [hbk] at this ⊢
 rw [e]
 exact this
theorem RowN.below {W W1 : World} {A : Option Addr} {l : List Int} (h : RowN W A l) (hb : Below W.heap.size W W1) : RowN W1 A l := h.keep (fun k hk _ => hb.block k hk)
theorem same_l0N (x : Int) (n : Nat) : ∀ (d i : Nat) (l : List Int), n - i = d → i ≤ n → n ≤ 1000 → l.length + (n - i) ≤ 100000 → Ev (fun k => montageref08_same.l0 k l (n : Int) x (i : Int)) (l ++ List.replicate (n - i) x) := by
 intro d
 induction d with
 | zero =>
  intro i l hd hi hn hl
  obtain rfl : i = n := by omega
  refine Ev.step (f := fun _ => some l) (fun k => ?_) (by rw [Nat.sub_self, List.replicate_zero, List.append_nil]; exact Ev.now _)
  simp only [montageref08_same.l0]
  rw [if_neg (by omega)]
 | succ d ih =>
  intro i l hd hi hn hl
  have h := ih (i + 1) (l ++ [x]) (by omega) (by omega) hn (by simp; omega)
  rw [List.append_assoc, show [x] ++ List.replicate (n - (i + 1)) x = List.replicate (n - i) x from by rw [show n - i = (n - (i + 1)) + 1 from by omega, List.replicate_succ]; rfl] at h
  refine Ev.step (fun k => ?_) h
  simp only [montageref08_same.l0]
  rw [if_pos (by omega), if_pos (by omega), w64 (by omega) (by omega)]
  rfl
theorem same_isN (l : List Int) (n : Nat) (x : Int) (hn : n ≤ 1000) (hl : l.length ≤ 90000) : Ev (fun k => montageref08_same.f k l (n : Int) x) (l ++ List.replicate n x) := by
 have := same_l0N x n n 0 l (by omega) (by omega) hn (by omega)
 exact this
end Go.Proofs.Ytmanmjjjepdhlaa.XPrefix
