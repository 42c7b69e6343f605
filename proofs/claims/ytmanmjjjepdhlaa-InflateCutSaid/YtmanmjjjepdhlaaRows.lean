/-
  No cell of these rows narrows 'for every input' (looked for: loops, veiled, ifaces, maps, wideKeys, modest, calm, conditions, laid).
  DERIVED. THE GIVEN ROWS OF THIS SEAT. 9 by the template 'for every input the law returns true; each argument reads behind the call as it read before'; 0 by the template 'total and deterministic' (their statements: YtmanmjjjepdhlaaTotals.lean).
  GIVEN WITH THE SEED: the statements are not yours to turn. If you find one false, say at which input.
  Laid BY PROGRAM, IN A SANDBOX (cutbox-rows.mjs): the forced cells as the released guide's own fill.sh prints them over the translation fbced770c7ad1ea9… (all of the seat's roots in one cut). By AI agents, Wed Nov 11 2026. No macro, syntax, notation, axiom, sorry.
-/
import Derived.Test.YtmanmjjjepdhlaaChecked
import GoSem.Claim
import GoSem.ClaimJoined
import GoSem.ClaimMapViews
import Derived.JoinedTies
import Derived.KernelRfl
namespace Go.Proofs.Ytmanmjjjepdhlaa
/- THE CELL 'sum', in the pinned program and in every row, IS THE sha256 OF THE DUMP (.gsa) THAT YtmanmjjjepdhlaaProg.lean LOADS. Nothing in Lean hashes anything: it is a label: what it is worth is what the hold of that sum in a sandbox is worth. -/
noncomputable def Try.pinned : Pinned := { name := "ytmanmjjjepdhlaa", sum := "fbced770c7ad1ea9080efa0f22bf0e156eedc8c31222f20727a6f411aaace7cf", checked := Try.checked }
namespace Rows
def none {H : Type} : Left H := { results := [], args := [] }

/-- 'montagelaw06.LimitLengths': WHATEVER THE INPUT: true; the input reads as it did. -/
def limitLengthsSpec : ChangeSpec := { name := "limitLengths", fn := fun _ => fun
  | [d1, d2] => { results := [.lit (.bool true)], args := [d1, d2] }
  | _ => none }
def limitLengthsRow : OpenClaim := { program := "ytmanmjjjepdhlaa", sum := "fbced770c7ad1ea9080efa0f22bf0e156eedc8c31222f20727a6f411aaace7cf", func := "montage/montagelaw06.LimitLengths", spec := "limitLengths", unfollowed := true, recurses := true, apart := false }
def LimitLengthsSaid : Prop := limitLengthsRow.holds Try.pinned (OpenSpec.ofChange limitLengthsSpec)

/-- ITS FALSE NEIGHBOUR: 'it returns false'. Refute it at one input. -/
def limitLengthsWrong : ChangeSpec := { name := "limitLengths", fn := fun _ => fun
  | [d1, d2] => { results := [.lit (.bool false)], args := [d1, d2] }
  | _ => none }
def LimitLengthsWrongFalsely : Prop := limitLengthsRow.holds Try.pinned (OpenSpec.ofChange limitLengthsWrong)

/-- 'montagelaw06.LimitFree': WHATEVER THE INPUT: true; the input reads as it did. -/
def limitFreeSpec : ChangeSpec := { name := "limitFree", fn := fun _ => fun
  | [d] => { results := [.lit (.bool true)], args := [d] }
  | _ => none }
def limitFreeRow : OpenClaim := { program := "ytmanmjjjepdhlaa", sum := "fbced770c7ad1ea9080efa0f22bf0e156eedc8c31222f20727a6f411aaace7cf", func := "montage/montagelaw06.LimitFree", spec := "limitFree", unfollowed := true, recurses := true, apart := false }
def LimitFreeSaid : Prop := limitFreeRow.holds Try.pinned (OpenSpec.ofChange limitFreeSpec)

/-- ITS FALSE NEIGHBOUR: 'it returns false'. Refute it at one input. -/
def limitFreeWrong : ChangeSpec := { name := "limitFree", fn := fun _ => fun
  | [d] => { results := [.lit (.bool false)], args := [d] }
  | _ => none }
def LimitFreeWrongFalsely : Prop := limitFreeRow.holds Try.pinned (OpenSpec.ofChange limitFreeWrong)

/-- 'montagelaw06.LimitCosts': WHATEVER THE INPUT: true; the input reads as it did. -/
def limitCostsSpec : ChangeSpec := { name := "limitCosts", fn := fun _ => fun
  | [d1, d2, d3] => { results := [.lit (.bool true)], args := [d1, d2, d3] }
  | _ => none }
def limitCostsRow : OpenClaim := { program := "ytmanmjjjepdhlaa", sum := "fbced770c7ad1ea9080efa0f22bf0e156eedc8c31222f20727a6f411aaace7cf", func := "montage/montagelaw06.LimitCosts", spec := "limitCosts", unfollowed := true, recurses := true, apart := false }
def LimitCostsSaid : Prop := limitCostsRow.holds Try.pinned (OpenSpec.ofChange limitCostsSpec)

/-- ITS FALSE NEIGHBOUR: 'it returns false'. Refute it at one input. -/
def limitCostsWrong : ChangeSpec := { name := "limitCosts", fn := fun _ => fun
  | [d1, d2, d3] => { results := [.lit (.bool false)], args := [d1, d2, d3] }
  | _ => none }
def LimitCostsWrongFalsely : Prop := limitCostsRow.holds Try.pinned (OpenSpec.ofChange limitCostsWrong)

/-- 'montagelaw08.InflateAny': WHATEVER THE INPUT: true; the input reads as it did. -/
def inflateAnySpec : ChangeSpec := { name := "inflateAny", fn := fun _ => fun
  | [d1, d2] => { results := [.lit (.bool true)], args := [d1, d2] }
  | _ => none }
def inflateAnyRow : OpenClaim := { program := "ytmanmjjjepdhlaa", sum := "fbced770c7ad1ea9080efa0f22bf0e156eedc8c31222f20727a6f411aaace7cf", func := "montage/montagelaw08.InflateAny", spec := "inflateAny", apart := false }
def InflateAnySaid : Prop := inflateAnyRow.holds Try.pinned (OpenSpec.ofChange inflateAnySpec)

/-- ITS FALSE NEIGHBOUR: 'it returns false'. Refute it at one input. -/
def inflateAnyWrong : ChangeSpec := { name := "inflateAny", fn := fun _ => fun
  | [d1, d2] => { results := [.lit (.bool false)], args := [d1, d2] }
  | _ => none }
def InflateAnyWrongFalsely : Prop := inflateAnyRow.holds Try.pinned (OpenSpec.ofChange inflateAnyWrong)

/-- 'montagelaw08.InflateTokens': WHATEVER THE INPUT: true; the input reads as it did. -/
def inflateTokensSpec : ChangeSpec := { name := "inflateTokens", fn := fun _ => fun
  | [d] => { results := [.lit (.bool true)], args := [d] }
  | _ => none }
def inflateTokensRow : OpenClaim := { program := "ytmanmjjjepdhlaa", sum := "fbced770c7ad1ea9080efa0f22bf0e156eedc8c31222f20727a6f411aaace7cf", func := "montage/montagelaw08.InflateTokens", spec := "inflateTokens", apart := false }
def InflateTokensSaid : Prop := inflateTokensRow.holds Try.pinned (OpenSpec.ofChange inflateTokensSpec)

/-- ITS FALSE NEIGHBOUR: 'it returns false'. Refute it at one input. -/
def inflateTokensWrong : ChangeSpec := { name := "inflateTokens", fn := fun _ => fun
  | [d] => { results := [.lit (.bool false)], args := [d] }
  | _ => none }
def InflateTokensWrongFalsely : Prop := inflateTokensRow.holds Try.pinned (OpenSpec.ofChange inflateTokensWrong)

/-- 'montagelaw08.InflateCut': WHATEVER THE INPUT: true; the input reads as it did. -/
def inflateCutSpec : ChangeSpec := { name := "inflateCut", fn := fun _ => fun
  | [d1, d2, d3] => { results := [.lit (.bool true)], args := [d1, d2, d3] }
  | _ => none }
def inflateCutRow : OpenClaim := { program := "ytmanmjjjepdhlaa", sum := "fbced770c7ad1ea9080efa0f22bf0e156eedc8c31222f20727a6f411aaace7cf", func := "montage/montagelaw08.InflateCut", spec := "inflateCut", apart := false }
def InflateCutSaid : Prop := inflateCutRow.holds Try.pinned (OpenSpec.ofChange inflateCutSpec)

/-- ITS FALSE NEIGHBOUR: 'it returns false'. Refute it at one input. -/
def inflateCutWrong : ChangeSpec := { name := "inflateCut", fn := fun _ => fun
  | [d1, d2, d3] => { results := [.lit (.bool false)], args := [d1, d2, d3] }
  | _ => none }
def InflateCutWrongFalsely : Prop := inflateCutRow.holds Try.pinned (OpenSpec.ofChange inflateCutWrong)

/-- 'montagelaw11.BlockGreat': WHATEVER THE INPUT: true; the input reads as it did. -/
def blockGreatSpec : ChangeSpec := { name := "blockGreat", fn := fun _ => fun
  | [d1, d2] => { results := [.lit (.bool true)], args := [d1, d2] }
  | _ => none }
def blockGreatRow : OpenClaim := { program := "ytmanmjjjepdhlaa", sum := "fbced770c7ad1ea9080efa0f22bf0e156eedc8c31222f20727a6f411aaace7cf", func := "montage/montagelaw11.BlockGreat", spec := "blockGreat", unfollowed := true, recurses := true, apart := false }
def BlockGreatSaid : Prop := blockGreatRow.holds Try.pinned (OpenSpec.ofChange blockGreatSpec)

/-- ITS FALSE NEIGHBOUR: 'it returns false'. Refute it at one input. -/
def blockGreatWrong : ChangeSpec := { name := "blockGreat", fn := fun _ => fun
  | [d1, d2] => { results := [.lit (.bool false)], args := [d1, d2] }
  | _ => none }
def BlockGreatWrongFalsely : Prop := blockGreatRow.holds Try.pinned (OpenSpec.ofChange blockGreatWrong)

/-- 'montagelaw11.BlockBits': WHATEVER THE INPUT: true; the input reads as it did. -/
def blockBitsSpec : ChangeSpec := { name := "blockBits", fn := fun _ => fun
  | [d1, d2, d3] => { results := [.lit (.bool true)], args := [d1, d2, d3] }
  | _ => none }
def blockBitsRow : OpenClaim := { program := "ytmanmjjjepdhlaa", sum := "fbced770c7ad1ea9080efa0f22bf0e156eedc8c31222f20727a6f411aaace7cf", func := "montage/montagelaw11.BlockBits", spec := "blockBits", unfollowed := true, recurses := true, apart := false }
def BlockBitsSaid : Prop := blockBitsRow.holds Try.pinned (OpenSpec.ofChange blockBitsSpec)

/-- ITS FALSE NEIGHBOUR: 'it returns false'. Refute it at one input. -/
def blockBitsWrong : ChangeSpec := { name := "blockBits", fn := fun _ => fun
  | [d1, d2, d3] => { results := [.lit (.bool false)], args := [d1, d2, d3] }
  | _ => none }
def BlockBitsWrongFalsely : Prop := blockBitsRow.holds Try.pinned (OpenSpec.ofChange blockBitsWrong)

/-- 'montagelaw11.BlockReads': WHATEVER THE INPUT: true; the input reads as it did. -/
def blockReadsSpec : ChangeSpec := { name := "blockReads", fn := fun _ => fun
  | [d] => { results := [.lit (.bool true)], args := [d] }
  | _ => none }
def blockReadsRow : OpenClaim := { program := "ytmanmjjjepdhlaa", sum := "fbced770c7ad1ea9080efa0f22bf0e156eedc8c31222f20727a6f411aaace7cf", func := "montage/montagelaw11.BlockReads", spec := "blockReads", unfollowed := true, recurses := true, apart := false }
def BlockReadsSaid : Prop := blockReadsRow.holds Try.pinned (OpenSpec.ofChange blockReadsSpec)

/-- ITS FALSE NEIGHBOUR: 'it returns false'. Refute it at one input. -/
def blockReadsWrong : ChangeSpec := { name := "blockReads", fn := fun _ => fun
  | [d] => { results := [.lit (.bool false)], args := [d] }
  | _ => none }
def BlockReadsWrongFalsely : Prop := blockReadsRow.holds Try.pinned (OpenSpec.ofChange blockReadsWrong)

/- THE SECOND FORM. 'bulk': how many values and letters a reading holds, each counted each time it is reached (what is shared counts as often as it is met; a slice's spare places count too). A statement '..UptoSaid' is the law's where the arguments, and the package variables that the reading takes, are together of bulk at most 1048576: NARROWER than '..Said'. Prove '..Said' where nothing that the law and all that it calls make is longer than what came in: it says more and counts as full. Else prove '..UptoSaid'. A law counts once. -/
mutual
def uptoBulk {H : Type} : DataW H → Nat
  | .lit (.string bytes) => bytes.length + 1
  | .lit _ => 1
  | .nil => 1
  | .ptr d => uptoBulk d + 1
  | .slice elems spare => uptoBulkAll elems + uptoBulkAll spare + 1
  | .agg parts => uptoBulkAll parts + 1
  | .iface _ d => uptoBulk d + 1
  | .map entries => uptoBulkEntries entries + 1
  | .held _ => 1
def uptoBulkAll {H : Type} : List (DataW H) → Nat
  | [] => 0
  | d :: r => uptoBulk d + uptoBulkAll r
def uptoBulkEntries {H : Type} : List (Lit × DataW H) → Nat
  | [] => 0
  | x :: r => uptoBulkEntry x + uptoBulkEntries r
def uptoBulkEntry {H : Type} : Lit × DataW H → Nat
  | (.string bytes, d) => bytes.length + uptoBulk d + 1
  | (_, d) => uptoBulk d + 1
 end
def uptoSmall : (H : Type) → List (DataW H) → Bool := fun _ ds => decide (uptoBulkAll ds ≤ 1048576)
def OpenSpec.upto (s : _root_.Go.ChangeSpec) : _root_.Go.OpenSpec := { _root_.Go.OpenSpec.ofChange s with cond := some uptoSmall }

/-- 'montagelaw06.LimitLengths', WHERE WHAT IT READS IS OF BULK AT MOST 1048576: true; the input reads as it did. -/
def limitLengthsUptoRow : OpenClaim := { program := "ytmanmjjjepdhlaa", sum := "fbced770c7ad1ea9080efa0f22bf0e156eedc8c31222f20727a6f411aaace7cf", func := "montage/montagelaw06.LimitLengths", spec := "limitLengths", unfollowed := true, recurses := true, apart := false, narrowed := true }
def LimitLengthsUptoSaid : Prop := limitLengthsUptoRow.holds Try.pinned (OpenSpec.upto limitLengthsSpec)

/-- 'montagelaw06.LimitFree', WHERE WHAT IT READS IS OF BULK AT MOST 1048576: true; the input reads as it did. -/
def limitFreeUptoRow : OpenClaim := { program := "ytmanmjjjepdhlaa", sum := "fbced770c7ad1ea9080efa0f22bf0e156eedc8c31222f20727a6f411aaace7cf", func := "montage/montagelaw06.LimitFree", spec := "limitFree", unfollowed := true, recurses := true, apart := false, narrowed := true }
def LimitFreeUptoSaid : Prop := limitFreeUptoRow.holds Try.pinned (OpenSpec.upto limitFreeSpec)

/-- 'montagelaw06.LimitCosts', WHERE WHAT IT READS IS OF BULK AT MOST 1048576: true; the input reads as it did. -/
def limitCostsUptoRow : OpenClaim := { program := "ytmanmjjjepdhlaa", sum := "fbced770c7ad1ea9080efa0f22bf0e156eedc8c31222f20727a6f411aaace7cf", func := "montage/montagelaw06.LimitCosts", spec := "limitCosts", unfollowed := true, recurses := true, apart := false, narrowed := true }
def LimitCostsUptoSaid : Prop := limitCostsUptoRow.holds Try.pinned (OpenSpec.upto limitCostsSpec)

/-- 'montagelaw08.InflateAny', WHERE WHAT IT READS IS OF BULK AT MOST 1048576: true; the input reads as it did. -/
def inflateAnyUptoRow : OpenClaim := { program := "ytmanmjjjepdhlaa", sum := "fbced770c7ad1ea9080efa0f22bf0e156eedc8c31222f20727a6f411aaace7cf", func := "montage/montagelaw08.InflateAny", spec := "inflateAny", apart := false, narrowed := true }
def InflateAnyUptoSaid : Prop := inflateAnyUptoRow.holds Try.pinned (OpenSpec.upto inflateAnySpec)

/-- 'montagelaw08.InflateTokens', WHERE WHAT IT READS IS OF BULK AT MOST 1048576: true; the input reads as it did. -/
def inflateTokensUptoRow : OpenClaim := { program := "ytmanmjjjepdhlaa", sum := "fbced770c7ad1ea9080efa0f22bf0e156eedc8c31222f20727a6f411aaace7cf", func := "montage/montagelaw08.InflateTokens", spec := "inflateTokens", apart := false, narrowed := true }
def InflateTokensUptoSaid : Prop := inflateTokensUptoRow.holds Try.pinned (OpenSpec.upto inflateTokensSpec)

/-- 'montagelaw08.InflateCut', WHERE WHAT IT READS IS OF BULK AT MOST 1048576: true; the input reads as it did. -/
def inflateCutUptoRow : OpenClaim := { program := "ytmanmjjjepdhlaa", sum := "fbced770c7ad1ea9080efa0f22bf0e156eedc8c31222f20727a6f411aaace7cf", func := "montage/montagelaw08.InflateCut", spec := "inflateCut", apart := false, narrowed := true }
def InflateCutUptoSaid : Prop := inflateCutUptoRow.holds Try.pinned (OpenSpec.upto inflateCutSpec)

/-- 'montagelaw11.BlockGreat', WHERE WHAT IT READS IS OF BULK AT MOST 1048576: true; the input reads as it did. -/
def blockGreatUptoRow : OpenClaim := { program := "ytmanmjjjepdhlaa", sum := "fbced770c7ad1ea9080efa0f22bf0e156eedc8c31222f20727a6f411aaace7cf", func := "montage/montagelaw11.BlockGreat", spec := "blockGreat", unfollowed := true, recurses := true, apart := false, narrowed := true }
def BlockGreatUptoSaid : Prop := blockGreatUptoRow.holds Try.pinned (OpenSpec.upto blockGreatSpec)

/-- 'montagelaw11.BlockBits', WHERE WHAT IT READS IS OF BULK AT MOST 1048576: true; the input reads as it did. -/
def blockBitsUptoRow : OpenClaim := { program := "ytmanmjjjepdhlaa", sum := "fbced770c7ad1ea9080efa0f22bf0e156eedc8c31222f20727a6f411aaace7cf", func := "montage/montagelaw11.BlockBits", spec := "blockBits", unfollowed := true, recurses := true, apart := false, narrowed := true }
def BlockBitsUptoSaid : Prop := blockBitsUptoRow.holds Try.pinned (OpenSpec.upto blockBitsSpec)

/-- 'montagelaw11.BlockReads', WHERE WHAT IT READS IS OF BULK AT MOST 1048576: true; the input reads as it did. -/
def blockReadsUptoRow : OpenClaim := { program := "ytmanmjjjepdhlaa", sum := "fbced770c7ad1ea9080efa0f22bf0e156eedc8c31222f20727a6f411aaace7cf", func := "montage/montagelaw11.BlockReads", spec := "blockReads", unfollowed := true, recurses := true, apart := false, narrowed := true }
def BlockReadsUptoSaid : Prop := blockReadsUptoRow.holds Try.pinned (OpenSpec.upto blockReadsSpec)

end Rows
end Go.Proofs.Ytmanmjjjepdhlaa
