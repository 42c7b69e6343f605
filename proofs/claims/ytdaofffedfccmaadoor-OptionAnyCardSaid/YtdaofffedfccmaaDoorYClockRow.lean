/- From the row to the library It has no conditions. -/
import Derived.Lib.LaidTab
import Derived.Test.YtdaofffedfccmaaDoorXClock
import Derived.Test.YtdaofffedfccmaaDoorRows
import Derived.BigRegion
import Derived.RegionTactic
import Derived.ChangeAlike
import Derived.Deep.RegionWith
import Derived.Deep.RegionLaw
import Derived.Laws.Tables
import Derived.Deep.QuietTactic
import Derived.BigQuiet
import Derived.Deep.RegionHeld3
import Derived.Deep.AppendLies
import Derived.Deep.DrawnRows
import Derived.Laws.CopyOwn
import Derived.Deep.MidRow
import Derived.Laws.ResultCell
import Derived.ChangeKeysEq
import Derived.Laws.BitsAllLaws
namespace Go.Proofs.YtdaofffedfccmaaDoor.ClockP
set_option linter.unusedVariables false
set_option linter.unusedSimpArgs false
open Go.RowKit Go.Proofs.YtdaofffedfccmaaDoorW.PrintWords Go.Proofs.YtdaofffedfccmaaDoorW.PrintLast Go.Proofs.YtdaofffedfccmaaDoorW.PrintMore
attribute [local go_sem] max2_int min2_int max_two min_two max_three min_three max_four min_four
/-! ### From the row's list of variables to what the library's contracts ask. -/
def VarR (w : World) (n : String) (d : DataW Unit) : Prop :=
  ∃ g t cs fuel p, Tryd.prog.globalNamed n = some g ∧ (Tryd.prog.globals[g]?).map (·.type) = some t ∧ w.var? Tryd.prog n = some cs ∧ DataW.trod (fun _ => ()) Tryd.prog w 0 (fun _ => true) false fuel t cs.toList = some (d, p)
theorem vars_read {w : World} : ∀ {l : List (String × DataW Unit)} {ps : List MemPlace}, DataW.LaidVars Tryd.prog w l ps → ∀ n d, (n, d) ∈ l → VarR w n d
  | [], _, _, _, _, hm => by cases hm
  | (n', d') :: r, ps, h, n, d, hm => by
    obtain ⟨g, t, cs, fuel, p, q, h1, h2, h3, h4, h5, _⟩ := h
    rcases List.mem_cons.1 hm with e | e
    · cases e
      exact ⟨g, t, cs, fuel, p, h1, h2, h3, h4⟩
    · exact vars_read h5 n d e
theorem iface_cells {w : World} {t : TypeId} {ms : Array (String × TypeId)} {cs : List Value} {fuel : Nat} {nm : String} {d : DataW Unit} {p : List MemPlace} (ht : Tryd.prog.underlying t = some (.interface ms))
    (h : DataW.trod (fun _ => ()) Tryd.prog w 0 (fun _ => true) false fuel t cs = some (.iface nm d, p)) : ∃ u v, cs = [.iface u v] := by
  cases fuel with
  | zero => simp [DataW.trod] at h
  | succ n =>
    unfold DataW.trod at h
    rw [ht] at h
    split at h <;> simp_all
theorem iface_at {w : World} {n : String} {g t : Nat} {nm : String} {d : DataW Unit} (hg : Tryd.prog.globalNamed n = some g) (hty : (Tryd.prog.globals[g]?).map (·.type) = some t) (hi : (match Tryd.prog.underlying t with | some (.interface _) => true | _ => false) = true)
    (h : VarR w n (.iface nm d)) : ∃ te pe, w.cell? ⟨g, 0, none⟩ = some (.iface te pe) := by
  obtain ⟨g', t', cs, fuel, p, hg', ht', hv, hd⟩ := h
  obtain rfl := Option.some.inj (hg.symm.trans hg')
  obtain rfl := Option.some.inj (hty.symm.trans ht')
  obtain ⟨ms, ht⟩ : ∃ ms, Tryd.prog.underlying t = some (.interface ms) := by
    split at hi
    · rename_i ms e; exact ⟨ms, e⟩
    · cases hi
  obtain ⟨u, v, e⟩ := iface_cells ht hd
  refine ⟨u, v, (World.var?_cell hg hv 0).trans ?_⟩
  have e2 : cs = #[.iface u v] := by cases cs; simpa using e
  rw [e2]
  rfl
theorem tab_at {w : World} {n : String} {g t e m : Nat} {k : IntKind} {zs : List Int} (hg : Tryd.prog.globalNamed n = some g) (hty : (Tryd.prog.globals[g]?).map (·.type) = some t) (ht : Tryd.prog.underlying t = some (.array m e)) (he : Tryd.prog.underlying e = some (.int k)) (hce : Tryd.prog.cellsOf e = 1) (hct : Tryd.prog.cellsOf t = m)
    (h : VarR w n (Lib.tabData k zs)) : Lib.TabIs Tryd.prog w n k zs := by
  obtain ⟨g', t', cs, fuel, p, hg', ht', hv, hd⟩ := h
  obtain rfl := Option.some.inj (hg.symm.trans hg')
  obtain rfl := Option.some.inj (hty.symm.trans ht')
  unfold Lib.TabIs
  rw [hv, ← Lib.cells_of_tab ht he hce hct hd]
theorem laid_of {w : World} {l : List (String × DataW Unit)} (h : laidMet Tryd.prog l w) (h1 : ("internal/strconv.uint64pow10", Rows.laid_internal_strconv_uint64pow10) ∈ l) (h2 : ("strconv.ErrSyntax", Rows.laid_strconv_ErrSyntax) ∈ l) (h3 : ("strconv.ErrRange", Rows.laid_strconv_ErrRange) ∈ l) : XGlob.Laid w := by
  obtain ⟨ps, hv, _⟩ := h
  have r1 := vars_read hv _ _ h1
  have r2 := vars_read hv _ _ h2
  have r3 := vars_read hv _ _ h3
  exact ⟨tab_at (t := 199) (e := 178) (m := 20) XGlob.gTab (by kernel_rfl) (by kernel_rfl) (by kernel_rfl) (by kernel_rfl) (by kernel_rfl) r1, iface_at (g := 0) (t := 89) (by kernel_rfl) (by kernel_rfl) (by kernel_rfl) r2, iface_at (g := 1) (t := 89) (by kernel_rfl) (by kernel_rfl) (by kernel_rfl) r3⟩

end Go.Proofs.YtdaofffedfccmaaDoor.ClockP
