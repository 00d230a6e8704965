/-
  DERIVED. GIVEN WITH THE SEED: THE CARDS: each row of YtdggkhnelmonkaaDoorRows.lean that lists a variable, with what it lists TIED to the program's text (the seventh form; the later family's looks); each row that meets fmt, with fmt's text TOLD by the authors' own Lean function (tested against real Go, not proved from fmt's source: count such statements apart). THE CARD IS WHAT COUNTS. Prove the row's statement (the work); the ties are given (YtdggkhnelmonkaaDoorTie.lean); close each card by the builder's one call (the guide's Derived/Test/ToyasCard.lean, 'card_holds'). Laid BY PROGRAM, IN A SANDBOX (cutbox-door.mjs). By AI agents, Wed Nov 11 2026. No macro, syntax, notation, axiom, sorry.
-/
import Derived.Test.YtdggkhnelmonkaaDoorRows
import GoSem.ClaimSeven
namespace Go.Proofs.YtdggkhnelmonkaaDoor
namespace Rows

/-- THE TIED CARD OF 'prompterlaw06.ParsePlaces'. -/
def parsePlacesCard : Claim7 := { stood := { row := parsePlacesRow, standIns := [], harness := (true, "c755307bada28b352ade80bac1c23f49307e85e856af427ea3aea7e9d4eaa090"), looks := true }, kinds := [], alts := [], laidByText := true, laidKinds := [.widerDeep], laidTests := true, laidLooks := .later }
def ParsePlacesCardSaid : Prop := Claim7.holds Tryd.pinned (.plain (OpenSpec.ofChange parsePlacesSpec)) parsePlacesCard

/-- THE TIED CARD OF 'prompterlaw06.ParseDeep'. -/
def parseDeepCard : Claim7 := { stood := { row := parseDeepRow, standIns := [], harness := (true, "c755307bada28b352ade80bac1c23f49307e85e856af427ea3aea7e9d4eaa090"), looks := true }, kinds := [], alts := [], laidByText := true, laidKinds := [.widerDeep], laidTests := true, laidLooks := .later }
def ParseDeepCardSaid : Prop := Claim7.holds Tryd.pinned (.plain (OpenSpec.ofChange parseDeepSpec)) parseDeepCard

/-- THE TIED CARD OF 'prompterlaw06.ParseReads'. -/
def parseReadsCard : Claim7 := { stood := { row := parseReadsRow, standIns := [], harness := (true, "c755307bada28b352ade80bac1c23f49307e85e856af427ea3aea7e9d4eaa090"), looks := true }, kinds := [], alts := [], laidByText := true, laidKinds := [.widerDeep], laidTests := true, laidLooks := .later }
def ParseReadsCardSaid : Prop := Claim7.holds Tryd.pinned (.plain (OpenSpec.ofChange parseReadsSpec)) parseReadsCard

/-- THE TIED CARD OF 'prompterlaw06.ParseAny'. -/
def parseAnyCard : Claim7 := { stood := { row := parseAnyRow, standIns := [], harness := (true, "c755307bada28b352ade80bac1c23f49307e85e856af427ea3aea7e9d4eaa090"), looks := true }, kinds := [], alts := [], laidByText := true, laidKinds := [.widerDeep], laidTests := true, laidLooks := .later }
def ParseAnyCardSaid : Prop := Claim7.holds Tryd.pinned (.plain (OpenSpec.ofChange parseAnySpec)) parseAnyCard

/-- THE TIED CARD OF 'prompterlaw06.ParseGaps'. -/
def parseGapsCard : Claim7 := { stood := { row := parseGapsRow, standIns := [], harness := (true, "c755307bada28b352ade80bac1c23f49307e85e856af427ea3aea7e9d4eaa090"), looks := true }, kinds := [], alts := [], laidByText := true, laidKinds := [.widerDeep], laidTests := true, laidLooks := .later }
def ParseGapsCardSaid : Prop := Claim7.holds Tryd.pinned (.plain (OpenSpec.ofChange parseGapsSpec)) parseGapsCard

/-- THE TIED CARD OF 'prompterlaw07.ShowPrints'. -/
def showPrintsCard : Claim7 := { stood := { row := showPrintsRow, standIns := [], harness := (true, "c755307bada28b352ade80bac1c23f49307e85e856af427ea3aea7e9d4eaa090"), looks := true }, kinds := [], alts := [], laidByText := true, laidKinds := [.data, .data, .data, .widerDeep, .data], laidTests := true, laidLooks := .later }
def ShowPrintsCardSaid : Prop := Claim7.holds Tryd.pinned (.plain (OpenSpec.ofChange showPrintsSpec)) showPrintsCard

/-- THE TIED CARD OF 'prompterlaw07.ShowRaw'. -/
def showRawCard : Claim7 := { stood := { row := showRawRow, standIns := [], harness := (true, "c755307bada28b352ade80bac1c23f49307e85e856af427ea3aea7e9d4eaa090"), looks := true }, kinds := [], alts := [], laidByText := true, laidKinds := [.data, .data, .data, .widerDeep, .data], laidTests := true, laidLooks := .later }
def ShowRawCardSaid : Prop := Claim7.holds Tryd.pinned (.plain (OpenSpec.ofChange showRawSpec)) showRawCard

/-- THE TIED CARD OF 'prompterlaw07.ShowTypes'. -/
def showTypesCard : Claim7 := { stood := { row := showTypesRow, standIns := [], harness := (true, "c755307bada28b352ade80bac1c23f49307e85e856af427ea3aea7e9d4eaa090"), looks := true }, kinds := [], alts := [], laidByText := true, laidKinds := [.data, .data, .data, .widerDeep, .data], laidTests := true, laidLooks := .later }
def ShowTypesCardSaid : Prop := Claim7.holds Tryd.pinned (.plain (OpenSpec.ofChange showTypesSpec)) showTypesCard

/-- THE TIED CARD OF 'prompterlaw07.ShowBack'. -/
def showBackCard : Claim7 := { stood := { row := showBackRow, standIns := [], harness := (true, "c755307bada28b352ade80bac1c23f49307e85e856af427ea3aea7e9d4eaa090"), looks := true }, kinds := [], alts := [], laidByText := true, laidKinds := [.data, .data, .data, .widerDeep, .data], laidTests := true, laidLooks := .later }
def ShowBackCardSaid : Prop := Claim7.holds Tryd.pinned (.plain (OpenSpec.ofChange showBackSpec)) showBackCard

/-- THE TIED CARD OF 'prompterlaw07.ShowAny'. -/
def showAnyCard : Claim7 := { stood := { row := showAnyRow, standIns := [], harness := (true, "c755307bada28b352ade80bac1c23f49307e85e856af427ea3aea7e9d4eaa090"), looks := true }, kinds := [], alts := [], laidByText := true, laidKinds := [.data, .data, .data, .widerDeep, .data], laidTests := true, laidLooks := .later }
def ShowAnyCardSaid : Prop := Claim7.holds Tryd.pinned (.plain (OpenSpec.ofChange showAnySpec)) showAnyCard

/-- THE SECOND FORM's CARD OF 'prompterlaw06.ParsePlaces'. -/
def parsePlacesUptoCard : Claim7 := { stood := { row := parsePlacesUptoRow, standIns := [], harness := (true, "c755307bada28b352ade80bac1c23f49307e85e856af427ea3aea7e9d4eaa090"), looks := true }, kinds := [], alts := [], laidByText := true, laidKinds := [.widerDeep], laidTests := true, laidLooks := .later }
def ParsePlacesUptoCardSaid : Prop := Claim7.holds Tryd.pinned (.plain (OpenSpec.upto parsePlacesSpec)) parsePlacesUptoCard

/-- THE SECOND FORM's CARD OF 'prompterlaw06.ParseDeep'. -/
def parseDeepUptoCard : Claim7 := { stood := { row := parseDeepUptoRow, standIns := [], harness := (true, "c755307bada28b352ade80bac1c23f49307e85e856af427ea3aea7e9d4eaa090"), looks := true }, kinds := [], alts := [], laidByText := true, laidKinds := [.widerDeep], laidTests := true, laidLooks := .later }
def ParseDeepUptoCardSaid : Prop := Claim7.holds Tryd.pinned (.plain (OpenSpec.upto parseDeepSpec)) parseDeepUptoCard

/-- THE SECOND FORM's CARD OF 'prompterlaw06.ParseReads'. -/
def parseReadsUptoCard : Claim7 := { stood := { row := parseReadsUptoRow, standIns := [], harness := (true, "c755307bada28b352ade80bac1c23f49307e85e856af427ea3aea7e9d4eaa090"), looks := true }, kinds := [], alts := [], laidByText := true, laidKinds := [.widerDeep], laidTests := true, laidLooks := .later }
def ParseReadsUptoCardSaid : Prop := Claim7.holds Tryd.pinned (.plain (OpenSpec.upto parseReadsSpec)) parseReadsUptoCard

/-- THE SECOND FORM's CARD OF 'prompterlaw06.ParseAny'. -/
def parseAnyUptoCard : Claim7 := { stood := { row := parseAnyUptoRow, standIns := [], harness := (true, "c755307bada28b352ade80bac1c23f49307e85e856af427ea3aea7e9d4eaa090"), looks := true }, kinds := [], alts := [], laidByText := true, laidKinds := [.widerDeep], laidTests := true, laidLooks := .later }
def ParseAnyUptoCardSaid : Prop := Claim7.holds Tryd.pinned (.plain (OpenSpec.upto parseAnySpec)) parseAnyUptoCard

/-- THE SECOND FORM's CARD OF 'prompterlaw06.ParseGaps'. -/
def parseGapsUptoCard : Claim7 := { stood := { row := parseGapsUptoRow, standIns := [], harness := (true, "c755307bada28b352ade80bac1c23f49307e85e856af427ea3aea7e9d4eaa090"), looks := true }, kinds := [], alts := [], laidByText := true, laidKinds := [.widerDeep], laidTests := true, laidLooks := .later }
def ParseGapsUptoCardSaid : Prop := Claim7.holds Tryd.pinned (.plain (OpenSpec.upto parseGapsSpec)) parseGapsUptoCard

/-- THE SECOND FORM's CARD OF 'prompterlaw07.ShowPrints'. -/
def showPrintsUptoCard : Claim7 := { stood := { row := showPrintsUptoRow, standIns := [], harness := (true, "c755307bada28b352ade80bac1c23f49307e85e856af427ea3aea7e9d4eaa090"), looks := true }, kinds := [], alts := [], laidByText := true, laidKinds := [.data, .data, .data, .widerDeep, .data], laidTests := true, laidLooks := .later }
def ShowPrintsUptoCardSaid : Prop := Claim7.holds Tryd.pinned (.plain (OpenSpec.upto showPrintsSpec)) showPrintsUptoCard

/-- THE SECOND FORM's CARD OF 'prompterlaw07.ShowRaw'. -/
def showRawUptoCard : Claim7 := { stood := { row := showRawUptoRow, standIns := [], harness := (true, "c755307bada28b352ade80bac1c23f49307e85e856af427ea3aea7e9d4eaa090"), looks := true }, kinds := [], alts := [], laidByText := true, laidKinds := [.data, .data, .data, .widerDeep, .data], laidTests := true, laidLooks := .later }
def ShowRawUptoCardSaid : Prop := Claim7.holds Tryd.pinned (.plain (OpenSpec.upto showRawSpec)) showRawUptoCard

/-- THE SECOND FORM's CARD OF 'prompterlaw07.ShowTypes'. -/
def showTypesUptoCard : Claim7 := { stood := { row := showTypesUptoRow, standIns := [], harness := (true, "c755307bada28b352ade80bac1c23f49307e85e856af427ea3aea7e9d4eaa090"), looks := true }, kinds := [], alts := [], laidByText := true, laidKinds := [.data, .data, .data, .widerDeep, .data], laidTests := true, laidLooks := .later }
def ShowTypesUptoCardSaid : Prop := Claim7.holds Tryd.pinned (.plain (OpenSpec.upto showTypesSpec)) showTypesUptoCard

/-- THE SECOND FORM's CARD OF 'prompterlaw07.ShowBack'. -/
def showBackUptoCard : Claim7 := { stood := { row := showBackUptoRow, standIns := [], harness := (true, "c755307bada28b352ade80bac1c23f49307e85e856af427ea3aea7e9d4eaa090"), looks := true }, kinds := [], alts := [], laidByText := true, laidKinds := [.data, .data, .data, .widerDeep, .data], laidTests := true, laidLooks := .later }
def ShowBackUptoCardSaid : Prop := Claim7.holds Tryd.pinned (.plain (OpenSpec.upto showBackSpec)) showBackUptoCard

/-- THE SECOND FORM's CARD OF 'prompterlaw07.ShowAny'. -/
def showAnyUptoCard : Claim7 := { stood := { row := showAnyUptoRow, standIns := [], harness := (true, "c755307bada28b352ade80bac1c23f49307e85e856af427ea3aea7e9d4eaa090"), looks := true }, kinds := [], alts := [], laidByText := true, laidKinds := [.data, .data, .data, .widerDeep, .data], laidTests := true, laidLooks := .later }
def ShowAnyUptoCardSaid : Prop := Claim7.holds Tryd.pinned (.plain (OpenSpec.upto showAnySpec)) showAnyUptoCard
end Rows
end Go.Proofs.YtdggkhnelmonkaaDoor
