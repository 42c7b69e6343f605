/-
  DERIVED. GIVEN WITH THE SEED: THE CARDS: each row of YtdaofffedfccmaaDoorRows.lean that lists a variable, with what it lists TIED to the program's text (the seventh form; the later family's looks); each row that meets fmt, with fmt's text TOLD by the authors' own Lean function (tested against real Go, not proved from fmt's source: count such statements apart). THE CARD IS WHAT COUNTS. Prove the row's statement (the work); the ties are given (YtdaofffedfccmaaDoorTie.lean); close each card by the builder's one call (the guide's Derived/Test/ToyasCard.lean, 'card_holds'). Laid BY PROGRAM, IN A SANDBOX (cutbox-door.mjs). By AI agents, Wed Nov 11 2026. No macro, syntax, notation, axiom, sorry.
-/
import Derived.Test.YtdaofffedfccmaaDoorRows
import GoSem.ClaimSeven
namespace Go.Proofs.YtdaofffedfccmaaDoor
namespace Rows

/-- THE TIED CARD OF 'montagelaw37.GlobFits'. -/
def globFitsCard : Claim7 := { stood := { row := globFitsRow, standIns := [], harness := (true, "945454e56613a63d174f4c7d32a3bf18342ab3efa9ee7adbc85cc2be3ca9419f"), looks := true }, kinds := [], alts := [], laidByText := true, laidKinds := [.data, .pinned], laidTests := true, laidLooks := .later }
def GlobFitsCardSaid : Prop := Claim7.holds Tryd.pinned (.plain (OpenSpec.ofChange globFitsSpec)) globFitsCard

/-- THE TIED CARD OF 'montagelaw37.GlobQuotes'. -/
def globQuotesCard : Claim7 := { stood := { row := globQuotesRow, standIns := [], harness := (true, "945454e56613a63d174f4c7d32a3bf18342ab3efa9ee7adbc85cc2be3ca9419f"), looks := true }, kinds := [], alts := [], laidByText := true, laidKinds := [.data, .pinned], laidTests := true, laidLooks := .later }
def GlobQuotesCardSaid : Prop := Claim7.holds Tryd.pinned (.plain (OpenSpec.ofChange globQuotesSpec)) globQuotesCard

/-- THE TIED CARD OF 'montagelaw37.GlobWide'. -/
def globWideCard : Claim7 := { stood := { row := globWideRow, standIns := [], harness := (true, "945454e56613a63d174f4c7d32a3bf18342ab3efa9ee7adbc85cc2be3ca9419f"), looks := true }, kinds := [], alts := [], laidByText := true, laidKinds := [.data, .pinned], laidTests := true, laidLooks := .later }
def GlobWideCardSaid : Prop := Claim7.holds Tryd.pinned (.plain (OpenSpec.ofChange globWideSpec)) globWideCard

/-- THE TIED CARD OF 'montagelaw42.ArmorSigns'. -/
def armorSignsCard : Claim7 := { stood := { row := armorSignsRow, standIns := [], harness := (true, "945454e56613a63d174f4c7d32a3bf18342ab3efa9ee7adbc85cc2be3ca9419f"), looks := true }, kinds := [], alts := [], laidByText := true, laidKinds := [.data, .pinned], laidTests := true, laidLooks := .later }
def ArmorSignsCardSaid : Prop := Claim7.holds Tryd.pinned (.plain (OpenSpec.ofChange armorSignsSpec)) armorSignsCard

/-- THE TIED CARD OF 'montagelaw42.ArmorBack'. -/
def armorBackCard : Claim7 := { stood := { row := armorBackRow, standIns := [], harness := (true, "945454e56613a63d174f4c7d32a3bf18342ab3efa9ee7adbc85cc2be3ca9419f"), looks := true }, kinds := [], alts := [], laidByText := true, laidKinds := [.data, .pinned], laidTests := true, laidLooks := .later }
def ArmorBackCardSaid : Prop := Claim7.holds Tryd.pinned (.plain (OpenSpec.ofChange armorBackSpec)) armorBackCard

/-- THE TIED CARD OF 'montagelaw41.ClockDates'. -/
def clockDatesCard : Claim7 := { stood := { row := clockDatesRow, standIns := [], harness := (true, "945454e56613a63d174f4c7d32a3bf18342ab3efa9ee7adbc85cc2be3ca9419f"), looks := true }, kinds := [], alts := [], laidByText := true, laidKinds := [.data, .data, .data, .sentinel, .sentinel], laidTests := true, laidLooks := .later }
def ClockDatesCardSaid : Prop := Claim7.holds Tryd.pinned (.plain (OpenSpec.ofChange clockDatesSpec)) clockDatesCard

/-- THE TIED CARD OF 'montagelaw41.ClockTimes'. -/
def clockTimesCard : Claim7 := { stood := { row := clockTimesRow, standIns := [], harness := (true, "945454e56613a63d174f4c7d32a3bf18342ab3efa9ee7adbc85cc2be3ca9419f"), looks := true }, kinds := [], alts := [], laidByText := true, laidKinds := [.data, .data, .data, .sentinel, .sentinel], laidTests := true, laidLooks := .later }
def ClockTimesCardSaid : Prop := Claim7.holds Tryd.pinned (.plain (OpenSpec.ofChange clockTimesSpec)) clockTimesCard

/-- THE TIED CARD OF 'montagelaw41.ClockSeconds'. -/
def clockSecondsCard : Claim7 := { stood := { row := clockSecondsRow, standIns := [], harness := (true, "945454e56613a63d174f4c7d32a3bf18342ab3efa9ee7adbc85cc2be3ca9419f"), looks := true }, kinds := [], alts := [], laidByText := true, laidKinds := [.data, .data, .data, .sentinel, .sentinel], laidTests := true, laidLooks := .later }
def ClockSecondsCardSaid : Prop := Claim7.holds Tryd.pinned (.plain (OpenSpec.ofChange clockSecondsSpec)) clockSecondsCard

/-- THE TIED CARD OF 'montagelaw31.OptionAny'. -/
def optionAnyCard : Claim7 := { stood := { row := optionAnyRow, standIns := [], harness := (true, "945454e56613a63d174f4c7d32a3bf18342ab3efa9ee7adbc85cc2be3ca9419f"), looks := true }, kinds := [], alts := [], laidByText := true, laidKinds := [.data, .data, .data, .data, .sentinel, .sentinel, .pinned], laidTests := true, laidLooks := .later }
def OptionAnyCardSaid : Prop := Claim7.holds Tryd.pinned (.plain (OpenSpec.ofChange optionAnySpec)) optionAnyCard

/-- THE TIED CARD OF 'montagelaw31.OptionBack'. -/
def optionBackCard : Claim7 := { stood := { row := optionBackRow, standIns := [], harness := (true, "945454e56613a63d174f4c7d32a3bf18342ab3efa9ee7adbc85cc2be3ca9419f"), looks := true }, kinds := [], alts := [], laidByText := true, laidKinds := [.data, .data, .data, .data, .sentinel, .sentinel, .pinned], laidTests := true, laidLooks := .later }
def OptionBackCardSaid : Prop := Claim7.holds Tryd.pinned (.plain (OpenSpec.ofChange optionBackSpec)) optionBackCard

/-- THE SECOND FORM's CARD OF 'montagelaw37.GlobFits'. -/
def globFitsUptoCard : Claim7 := { stood := { row := globFitsUptoRow, standIns := [], harness := (true, "945454e56613a63d174f4c7d32a3bf18342ab3efa9ee7adbc85cc2be3ca9419f"), looks := true }, kinds := [], alts := [], laidByText := true, laidKinds := [.data, .pinned], laidTests := true, laidLooks := .later }
def GlobFitsUptoCardSaid : Prop := Claim7.holds Tryd.pinned (.plain (OpenSpec.upto globFitsSpec)) globFitsUptoCard

/-- THE SECOND FORM's CARD OF 'montagelaw37.GlobQuotes'. -/
def globQuotesUptoCard : Claim7 := { stood := { row := globQuotesUptoRow, standIns := [], harness := (true, "945454e56613a63d174f4c7d32a3bf18342ab3efa9ee7adbc85cc2be3ca9419f"), looks := true }, kinds := [], alts := [], laidByText := true, laidKinds := [.data, .pinned], laidTests := true, laidLooks := .later }
def GlobQuotesUptoCardSaid : Prop := Claim7.holds Tryd.pinned (.plain (OpenSpec.upto globQuotesSpec)) globQuotesUptoCard

/-- THE SECOND FORM's CARD OF 'montagelaw37.GlobWide'. -/
def globWideUptoCard : Claim7 := { stood := { row := globWideUptoRow, standIns := [], harness := (true, "945454e56613a63d174f4c7d32a3bf18342ab3efa9ee7adbc85cc2be3ca9419f"), looks := true }, kinds := [], alts := [], laidByText := true, laidKinds := [.data, .pinned], laidTests := true, laidLooks := .later }
def GlobWideUptoCardSaid : Prop := Claim7.holds Tryd.pinned (.plain (OpenSpec.upto globWideSpec)) globWideUptoCard

/-- THE SECOND FORM's CARD OF 'montagelaw42.ArmorSigns'. -/
def armorSignsUptoCard : Claim7 := { stood := { row := armorSignsUptoRow, standIns := [], harness := (true, "945454e56613a63d174f4c7d32a3bf18342ab3efa9ee7adbc85cc2be3ca9419f"), looks := true }, kinds := [], alts := [], laidByText := true, laidKinds := [.data, .pinned], laidTests := true, laidLooks := .later }
def ArmorSignsUptoCardSaid : Prop := Claim7.holds Tryd.pinned (.plain (OpenSpec.upto armorSignsSpec)) armorSignsUptoCard

/-- THE SECOND FORM's CARD OF 'montagelaw42.ArmorBack'. -/
def armorBackUptoCard : Claim7 := { stood := { row := armorBackUptoRow, standIns := [], harness := (true, "945454e56613a63d174f4c7d32a3bf18342ab3efa9ee7adbc85cc2be3ca9419f"), looks := true }, kinds := [], alts := [], laidByText := true, laidKinds := [.data, .pinned], laidTests := true, laidLooks := .later }
def ArmorBackUptoCardSaid : Prop := Claim7.holds Tryd.pinned (.plain (OpenSpec.upto armorBackSpec)) armorBackUptoCard

/-- THE SECOND FORM's CARD OF 'montagelaw41.ClockDates'. -/
def clockDatesUptoCard : Claim7 := { stood := { row := clockDatesUptoRow, standIns := [], harness := (true, "945454e56613a63d174f4c7d32a3bf18342ab3efa9ee7adbc85cc2be3ca9419f"), looks := true }, kinds := [], alts := [], laidByText := true, laidKinds := [.data, .data, .data, .sentinel, .sentinel], laidTests := true, laidLooks := .later }
def ClockDatesUptoCardSaid : Prop := Claim7.holds Tryd.pinned (.plain (OpenSpec.upto clockDatesSpec)) clockDatesUptoCard

/-- THE SECOND FORM's CARD OF 'montagelaw41.ClockTimes'. -/
def clockTimesUptoCard : Claim7 := { stood := { row := clockTimesUptoRow, standIns := [], harness := (true, "945454e56613a63d174f4c7d32a3bf18342ab3efa9ee7adbc85cc2be3ca9419f"), looks := true }, kinds := [], alts := [], laidByText := true, laidKinds := [.data, .data, .data, .sentinel, .sentinel], laidTests := true, laidLooks := .later }
def ClockTimesUptoCardSaid : Prop := Claim7.holds Tryd.pinned (.plain (OpenSpec.upto clockTimesSpec)) clockTimesUptoCard

/-- THE SECOND FORM's CARD OF 'montagelaw41.ClockSeconds'. -/
def clockSecondsUptoCard : Claim7 := { stood := { row := clockSecondsUptoRow, standIns := [], harness := (true, "945454e56613a63d174f4c7d32a3bf18342ab3efa9ee7adbc85cc2be3ca9419f"), looks := true }, kinds := [], alts := [], laidByText := true, laidKinds := [.data, .data, .data, .sentinel, .sentinel], laidTests := true, laidLooks := .later }
def ClockSecondsUptoCardSaid : Prop := Claim7.holds Tryd.pinned (.plain (OpenSpec.upto clockSecondsSpec)) clockSecondsUptoCard

/-- THE SECOND FORM's CARD OF 'montagelaw31.OptionAny'. -/
def optionAnyUptoCard : Claim7 := { stood := { row := optionAnyUptoRow, standIns := [], harness := (true, "945454e56613a63d174f4c7d32a3bf18342ab3efa9ee7adbc85cc2be3ca9419f"), looks := true }, kinds := [], alts := [], laidByText := true, laidKinds := [.data, .data, .data, .data, .sentinel, .sentinel, .pinned], laidTests := true, laidLooks := .later }
def OptionAnyUptoCardSaid : Prop := Claim7.holds Tryd.pinned (.plain (OpenSpec.upto optionAnySpec)) optionAnyUptoCard

/-- THE SECOND FORM's CARD OF 'montagelaw31.OptionBack'. -/
def optionBackUptoCard : Claim7 := { stood := { row := optionBackUptoRow, standIns := [], harness := (true, "945454e56613a63d174f4c7d32a3bf18342ab3efa9ee7adbc85cc2be3ca9419f"), looks := true }, kinds := [], alts := [], laidByText := true, laidKinds := [.data, .data, .data, .data, .sentinel, .sentinel, .pinned], laidTests := true, laidLooks := .later }
def OptionBackUptoCardSaid : Prop := Claim7.holds Tryd.pinned (.plain (OpenSpec.upto optionBackSpec)) optionBackUptoCard
end Rows
end Go.Proofs.YtdaofffedfccmaaDoor
