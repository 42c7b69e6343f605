/-
  No cell of these rows narrows 'for every input' (looked for: loops, veiled, ifaces, maps, wideKeys, modest, calm, conditions, laid).
  DERIVED. THE GIVEN ROWS OF THIS SEAT. 9 by the template 'for every input the law returns true; each argument reads behind the call as it read before'; 0 by the template 'total and deterministic' (their statements: YtlgdjacgdflfaaaTotals.lean).
  GIVEN WITH THE SEED: the statements are not yours to turn. If you find one false, say at which input.
  Laid BY PROGRAM, IN A SANDBOX (cutbox-rows.mjs): the forced cells as the released guide's own fill.sh prints them over the translation bb9d22499ac9881f… (all of the seat's roots in one cut). By AI agents, Wed Nov 11 2026. No macro, syntax, notation, axiom, sorry.
-/
import Derived.Test.YtlgdjacgdflfaaaChecked
import GoSem.Claim
import GoSem.ClaimJoined
import GoSem.ClaimMapViews
import Derived.JoinedTies
import Derived.KernelRfl
namespace Go.Proofs.Ytlgdjacgdflfaaa
/- THE CELL 'sum', in the pinned program and in every row, IS THE sha256 OF THE DUMP (.gsa) THAT YtlgdjacgdflfaaaProg.lean LOADS. Nothing in Lean hashes anything: it is a label: what it is worth is what the hold of that sum in a sandbox is worth. -/
noncomputable def Try.pinned : Pinned := { name := "ytlgdjacgdflfaaa", sum := "bb9d22499ac9881f1c87cf3d9ea1f16259c37fea249ef0e8ba54cee4d9a75540", checked := Try.checked }
namespace Rows
def none {H : Type} : Left H := { results := [], args := [] }

/-- 'montagelaw07.TokenExpands': WHATEVER THE INPUT: true; the input reads as it did. -/
def tokenExpandsSpec : ChangeSpec := { name := "tokenExpands", fn := fun _ => fun
  | [d1, d2] => { results := [.lit (.bool true)], args := [d1, d2] }
  | _ => none }
def tokenExpandsRow : OpenClaim := { program := "ytlgdjacgdflfaaa", sum := "bb9d22499ac9881f1c87cf3d9ea1f16259c37fea249ef0e8ba54cee4d9a75540", func := "montage/montagelaw07.TokenExpands", spec := "tokenExpands", apart := false }
def TokenExpandsSaid : Prop := tokenExpandsRow.holds Try.pinned (OpenSpec.ofChange tokenExpandsSpec)

/-- ITS FALSE NEIGHBOUR: 'it returns false'. Refute it at one input. -/
def tokenExpandsWrong : ChangeSpec := { name := "tokenExpands", fn := fun _ => fun
  | [d1, d2] => { results := [.lit (.bool false)], args := [d1, d2] }
  | _ => none }
def TokenExpandsWrongFalsely : Prop := tokenExpandsRow.holds Try.pinned (OpenSpec.ofChange tokenExpandsWrong)

/-- 'montagelaw07.TokenSymbols': WHATEVER THE INPUT: true; the input reads as it did. -/
def tokenSymbolsSpec : ChangeSpec := { name := "tokenSymbols", fn := fun _ => fun
  | [d1, d2] => { results := [.lit (.bool true)], args := [d1, d2] }
  | _ => none }
def tokenSymbolsRow : OpenClaim := { program := "ytlgdjacgdflfaaa", sum := "bb9d22499ac9881f1c87cf3d9ea1f16259c37fea249ef0e8ba54cee4d9a75540", func := "montage/montagelaw07.TokenSymbols", spec := "tokenSymbols", apart := false }
def TokenSymbolsSaid : Prop := tokenSymbolsRow.holds Try.pinned (OpenSpec.ofChange tokenSymbolsSpec)

/-- ITS FALSE NEIGHBOUR: 'it returns false'. Refute it at one input. -/
def tokenSymbolsWrong : ChangeSpec := { name := "tokenSymbols", fn := fun _ => fun
  | [d1, d2] => { results := [.lit (.bool false)], args := [d1, d2] }
  | _ => none }
def TokenSymbolsWrongFalsely : Prop := tokenSymbolsRow.holds Try.pinned (OpenSpec.ofChange tokenSymbolsWrong)

/-- 'montagelaw07.TokenOf': WHATEVER THE INPUT: true; the input reads as it did. -/
def tokenOfSpec : ChangeSpec := { name := "tokenOf", fn := fun _ => fun
  | [d1, d2] => { results := [.lit (.bool true)], args := [d1, d2] }
  | _ => none }
def tokenOfRow : OpenClaim := { program := "ytlgdjacgdflfaaa", sum := "bb9d22499ac9881f1c87cf3d9ea1f16259c37fea249ef0e8ba54cee4d9a75540", func := "montage/montagelaw07.TokenOf", spec := "tokenOf", apart := false }
def TokenOfSaid : Prop := tokenOfRow.holds Try.pinned (OpenSpec.ofChange tokenOfSpec)

/-- ITS FALSE NEIGHBOUR: 'it returns false'. Refute it at one input. -/
def tokenOfWrong : ChangeSpec := { name := "tokenOf", fn := fun _ => fun
  | [d1, d2] => { results := [.lit (.bool false)], args := [d1, d2] }
  | _ => none }
def TokenOfWrongFalsely : Prop := tokenOfRow.holds Try.pinned (OpenSpec.ofChange tokenOfWrong)

/-- 'montagelaw09.MatchBest': WHATEVER THE INPUT: true; the input reads as it did. -/
def matchBestSpec : ChangeSpec := { name := "matchBest", fn := fun _ => fun
  | [d1, d2] => { results := [.lit (.bool true)], args := [d1, d2] }
  | _ => none }
def matchBestRow : OpenClaim := { program := "ytlgdjacgdflfaaa", sum := "bb9d22499ac9881f1c87cf3d9ea1f16259c37fea249ef0e8ba54cee4d9a75540", func := "montage/montagelaw09.MatchBest", spec := "matchBest", unfollowed := true, recurses := true, apart := false }
def MatchBestSaid : Prop := matchBestRow.holds Try.pinned (OpenSpec.ofChange matchBestSpec)

/-- ITS FALSE NEIGHBOUR: 'it returns false'. Refute it at one input. -/
def matchBestWrong : ChangeSpec := { name := "matchBest", fn := fun _ => fun
  | [d1, d2] => { results := [.lit (.bool false)], args := [d1, d2] }
  | _ => none }
def MatchBestWrongFalsely : Prop := matchBestRow.holds Try.pinned (OpenSpec.ofChange matchBestWrong)

/-- 'montagelaw09.MatchTokens': WHATEVER THE INPUT: true; the input reads as it did. -/
def matchTokensSpec : ChangeSpec := { name := "matchTokens", fn := fun _ => fun
  | [d1, d2] => { results := [.lit (.bool true)], args := [d1, d2] }
  | _ => none }
def matchTokensRow : OpenClaim := { program := "ytlgdjacgdflfaaa", sum := "bb9d22499ac9881f1c87cf3d9ea1f16259c37fea249ef0e8ba54cee4d9a75540", func := "montage/montagelaw09.MatchTokens", spec := "matchTokens", unfollowed := true, recurses := true, apart := false }
def MatchTokensSaid : Prop := matchTokensRow.holds Try.pinned (OpenSpec.ofChange matchTokensSpec)

/-- ITS FALSE NEIGHBOUR: 'it returns false'. Refute it at one input. -/
def matchTokensWrong : ChangeSpec := { name := "matchTokens", fn := fun _ => fun
  | [d1, d2] => { results := [.lit (.bool false)], args := [d1, d2] }
  | _ => none }
def MatchTokensWrongFalsely : Prop := matchTokensRow.holds Try.pinned (OpenSpec.ofChange matchTokensWrong)

/-- 'montagelaw09.MatchRuns': WHATEVER THE INPUT: true; the input reads as it did. -/
def matchRunsSpec : ChangeSpec := { name := "matchRuns", fn := fun _ => fun
  | [d1, d2, d3] => { results := [.lit (.bool true)], args := [d1, d2, d3] }
  | _ => none }
def matchRunsRow : OpenClaim := { program := "ytlgdjacgdflfaaa", sum := "bb9d22499ac9881f1c87cf3d9ea1f16259c37fea249ef0e8ba54cee4d9a75540", func := "montage/montagelaw09.MatchRuns", spec := "matchRuns", unfollowed := true, recurses := true, apart := false }
def MatchRunsSaid : Prop := matchRunsRow.holds Try.pinned (OpenSpec.ofChange matchRunsSpec)

/-- ITS FALSE NEIGHBOUR: 'it returns false'. Refute it at one input. -/
def matchRunsWrong : ChangeSpec := { name := "matchRuns", fn := fun _ => fun
  | [d1, d2, d3] => { results := [.lit (.bool false)], args := [d1, d2, d3] }
  | _ => none }
def MatchRunsWrongFalsely : Prop := matchRunsRow.holds Try.pinned (OpenSpec.ofChange matchRunsWrong)

/-- 'montagelaw06.LimitLengths': WHATEVER THE INPUT: true; the input reads as it did. -/
def limitLengthsSpec : ChangeSpec := { name := "limitLengths", fn := fun _ => fun
  | [d1, d2] => { results := [.lit (.bool true)], args := [d1, d2] }
  | _ => none }
def limitLengthsRow : OpenClaim := { program := "ytlgdjacgdflfaaa", sum := "bb9d22499ac9881f1c87cf3d9ea1f16259c37fea249ef0e8ba54cee4d9a75540", func := "montage/montagelaw06.LimitLengths", spec := "limitLengths", unfollowed := true, recurses := true, apart := false }
def LimitLengthsSaid : Prop := limitLengthsRow.holds Try.pinned (OpenSpec.ofChange limitLengthsSpec)

/-- ITS FALSE NEIGHBOUR: 'it returns false'. Refute it at one input. -/
def limitLengthsWrong : ChangeSpec := { name := "limitLengths", fn := fun _ => fun
  | [d1, d2] => { results := [.lit (.bool false)], args := [d1, d2] }
  | _ => none }
def LimitLengthsWrongFalsely : Prop := limitLengthsRow.holds Try.pinned (OpenSpec.ofChange limitLengthsWrong)

/-- 'montagelaw06.LimitFree': WHATEVER THE INPUT: true; the input reads as it did. -/
def limitFreeSpec : ChangeSpec := { name := "limitFree", fn := fun _ => fun
  | [d] => { results := [.lit (.bool true)], args := [d] }
  | _ => none }
def limitFreeRow : OpenClaim := { program := "ytlgdjacgdflfaaa", sum := "bb9d22499ac9881f1c87cf3d9ea1f16259c37fea249ef0e8ba54cee4d9a75540", func := "montage/montagelaw06.LimitFree", spec := "limitFree", unfollowed := true, recurses := true, apart := false }
def LimitFreeSaid : Prop := limitFreeRow.holds Try.pinned (OpenSpec.ofChange limitFreeSpec)

/-- ITS FALSE NEIGHBOUR: 'it returns false'. Refute it at one input. -/
def limitFreeWrong : ChangeSpec := { name := "limitFree", fn := fun _ => fun
  | [d] => { results := [.lit (.bool false)], args := [d] }
  | _ => none }
def LimitFreeWrongFalsely : Prop := limitFreeRow.holds Try.pinned (OpenSpec.ofChange limitFreeWrong)

/-- 'montagelaw06.LimitCosts': WHATEVER THE INPUT: true; the input reads as it did. -/
def limitCostsSpec : ChangeSpec := { name := "limitCosts", fn := fun _ => fun
  | [d1, d2, d3] => { results := [.lit (.bool true)], args := [d1, d2, d3] }
  | _ => none }
def limitCostsRow : OpenClaim := { program := "ytlgdjacgdflfaaa", sum := "bb9d22499ac9881f1c87cf3d9ea1f16259c37fea249ef0e8ba54cee4d9a75540", func := "montage/montagelaw06.LimitCosts", spec := "limitCosts", unfollowed := true, recurses := true, apart := false }
def LimitCostsSaid : Prop := limitCostsRow.holds Try.pinned (OpenSpec.ofChange limitCostsSpec)

/-- ITS FALSE NEIGHBOUR: 'it returns false'. Refute it at one input. -/
def limitCostsWrong : ChangeSpec := { name := "limitCosts", fn := fun _ => fun
  | [d1, d2, d3] => { results := [.lit (.bool false)], args := [d1, d2, d3] }
  | _ => none }
def LimitCostsWrongFalsely : Prop := limitCostsRow.holds Try.pinned (OpenSpec.ofChange limitCostsWrong)

/- THE SECOND FORM. 'bulk': how many values and letters a reading holds, each counted each time it is reached (what is shared counts as often as it is met; a slice's spare places count too). A statement '..UptoSaid' is the law's where the arguments, and the package variables that the reading takes, are together of bulk at most 1048576: NARROWER than '..Said'. Prove '..Said' where nothing that the law and all that it calls make is longer than what came in: it says more and counts as full. Else prove '..UptoSaid'. A law counts once. -/
mutual
def uptoBulk {H : Type} : DataW H → Nat
  | .lit (.string bytes) => bytes.length + 1
  | .lit _ => 1
  | .nil => 1
  | .ptr d => uptoBulk d + 1
  | .slice elems spare => uptoBulkAll elems + uptoBulkAll spare + 1
  | .agg parts => uptoBulkAll parts + 1
  | .iface _ d => uptoBulk d + 1
  | .map entries => uptoBulkEntries entries + 1
  | .held _ => 1
def uptoBulkAll {H : Type} : List (DataW H) → Nat
  | [] => 0
  | d :: r => uptoBulk d + uptoBulkAll r
def uptoBulkEntries {H : Type} : List (Lit × DataW H) → Nat
  | [] => 0
  | x :: r => uptoBulkEntry x + uptoBulkEntries r
def uptoBulkEntry {H : Type} : Lit × DataW H → Nat
  | (.string bytes, d) => bytes.length + uptoBulk d + 1
  | (_, d) => uptoBulk d + 1
 end
def uptoSmall : (H : Type) → List (DataW H) → Bool := fun _ ds => decide (uptoBulkAll ds ≤ 1048576)
def OpenSpec.upto (s : _root_.Go.ChangeSpec) : _root_.Go.OpenSpec := { _root_.Go.OpenSpec.ofChange s with cond := some uptoSmall }

/-- 'montagelaw07.TokenExpands', WHERE WHAT IT READS IS OF BULK AT MOST 1048576: true; the input reads as it did. -/
def tokenExpandsUptoRow : OpenClaim := { program := "ytlgdjacgdflfaaa", sum := "bb9d22499ac9881f1c87cf3d9ea1f16259c37fea249ef0e8ba54cee4d9a75540", func := "montage/montagelaw07.TokenExpands", spec := "tokenExpands", apart := false, narrowed := true }
def TokenExpandsUptoSaid : Prop := tokenExpandsUptoRow.holds Try.pinned (OpenSpec.upto tokenExpandsSpec)

/-- 'montagelaw07.TokenSymbols', WHERE WHAT IT READS IS OF BULK AT MOST 1048576: true; the input reads as it did. -/
def tokenSymbolsUptoRow : OpenClaim := { program := "ytlgdjacgdflfaaa", sum := "bb9d22499ac9881f1c87cf3d9ea1f16259c37fea249ef0e8ba54cee4d9a75540", func := "montage/montagelaw07.TokenSymbols", spec := "tokenSymbols", apart := false, narrowed := true }
def TokenSymbolsUptoSaid : Prop := tokenSymbolsUptoRow.holds Try.pinned (OpenSpec.upto tokenSymbolsSpec)

/-- 'montagelaw07.TokenOf', WHERE WHAT IT READS IS OF BULK AT MOST 1048576: true; the input reads as it did. -/
def tokenOfUptoRow : OpenClaim := { program := "ytlgdjacgdflfaaa", sum := "bb9d22499ac9881f1c87cf3d9ea1f16259c37fea249ef0e8ba54cee4d9a75540", func := "montage/montagelaw07.TokenOf", spec := "tokenOf", apart := false, narrowed := true }
def TokenOfUptoSaid : Prop := tokenOfUptoRow.holds Try.pinned (OpenSpec.upto tokenOfSpec)

/-- 'montagelaw09.MatchBest', WHERE WHAT IT READS IS OF BULK AT MOST 1048576: true; the input reads as it did. -/
def matchBestUptoRow : OpenClaim := { program := "ytlgdjacgdflfaaa", sum := "bb9d22499ac9881f1c87cf3d9ea1f16259c37fea249ef0e8ba54cee4d9a75540", func := "montage/montagelaw09.MatchBest", spec := "matchBest", unfollowed := true, recurses := true, apart := false, narrowed := true }
def MatchBestUptoSaid : Prop := matchBestUptoRow.holds Try.pinned (OpenSpec.upto matchBestSpec)

/-- 'montagelaw09.MatchTokens', WHERE WHAT IT READS IS OF BULK AT MOST 1048576: true; the input reads as it did. -/
def matchTokensUptoRow : OpenClaim := { program := "ytlgdjacgdflfaaa", sum := "bb9d22499ac9881f1c87cf3d9ea1f16259c37fea249ef0e8ba54cee4d9a75540", func := "montage/montagelaw09.MatchTokens", spec := "matchTokens", unfollowed := true, recurses := true, apart := false, narrowed := true }
def MatchTokensUptoSaid : Prop := matchTokensUptoRow.holds Try.pinned (OpenSpec.upto matchTokensSpec)

/-- 'montagelaw09.MatchRuns', WHERE WHAT IT READS IS OF BULK AT MOST 1048576: true; the input reads as it did. -/
def matchRunsUptoRow : OpenClaim := { program := "ytlgdjacgdflfaaa", sum := "bb9d22499ac9881f1c87cf3d9ea1f16259c37fea249ef0e8ba54cee4d9a75540", func := "montage/montagelaw09.MatchRuns", spec := "matchRuns", unfollowed := true, recurses := true, apart := false, narrowed := true }
def MatchRunsUptoSaid : Prop := matchRunsUptoRow.holds Try.pinned (OpenSpec.upto matchRunsSpec)

/-- 'montagelaw06.LimitLengths', WHERE WHAT IT READS IS OF BULK AT MOST 1048576: true; the input reads as it did. -/
def limitLengthsUptoRow : OpenClaim := { program := "ytlgdjacgdflfaaa", sum := "bb9d22499ac9881f1c87cf3d9ea1f16259c37fea249ef0e8ba54cee4d9a75540", func := "montage/montagelaw06.LimitLengths", spec := "limitLengths", unfollowed := true, recurses := true, apart := false, narrowed := true }
def LimitLengthsUptoSaid : Prop := limitLengthsUptoRow.holds Try.pinned (OpenSpec.upto limitLengthsSpec)

/-- 'montagelaw06.LimitFree', WHERE WHAT IT READS IS OF BULK AT MOST 1048576: true; the input reads as it did. -/
def limitFreeUptoRow : OpenClaim := { program := "ytlgdjacgdflfaaa", sum := "bb9d22499ac9881f1c87cf3d9ea1f16259c37fea249ef0e8ba54cee4d9a75540", func := "montage/montagelaw06.LimitFree", spec := "limitFree", unfollowed := true, recurses := true, apart := false, narrowed := true }
def LimitFreeUptoSaid : Prop := limitFreeUptoRow.holds Try.pinned (OpenSpec.upto limitFreeSpec)

/-- 'montagelaw06.LimitCosts', WHERE WHAT IT READS IS OF BULK AT MOST 1048576: true; the input reads as it did. -/
def limitCostsUptoRow : OpenClaim := { program := "ytlgdjacgdflfaaa", sum := "bb9d22499ac9881f1c87cf3d9ea1f16259c37fea249ef0e8ba54cee4d9a75540", func := "montage/montagelaw06.LimitCosts", spec := "limitCosts", unfollowed := true, recurses := true, apart := false, narrowed := true }
def LimitCostsUptoSaid : Prop := limitCostsUptoRow.holds Try.pinned (OpenSpec.upto limitCostsSpec)

end Rows
end Go.Proofs.Ytlgdjacgdflfaaa
