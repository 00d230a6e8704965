/-
  DERIVED. GIVEN WITH THE SEED: THE CARDS: each row of YtmkfohiocklkoaaDoorRows.lean that lists a variable, with what it lists TIED to the program's text (the seventh form; the later family's looks); each row that meets fmt, with fmt's text TOLD by the authors' own Lean function (tested against real Go, not proved from fmt's source: count such statements apart). THE CARD IS WHAT COUNTS. Prove the row's statement (the work); the ties are given (YtmkfohiocklkoaaDoorTie.lean); close each card by the builder's one call (the guide's Derived/Test/ToyasCard.lean, 'card_holds'). Laid BY PROGRAM, IN A SANDBOX (cutbox-door.mjs). By AI agents, Wed Nov 11 2026. No macro, syntax, notation, axiom, sorry.
-/
import Derived.Test.YtmkfohiocklkoaaDoorRows
import GoSem.ClaimSeven
namespace Go.Proofs.YtmkfohiocklkoaaDoor
namespace Rows

/-- THE TIED CARD OF 'prompterlaw05.KindWrong'. -/
def kindWrongCard : Claim7 := { stood := { row := kindWrongRow, standIns := [], harness := (true, "a15ad4b29034c64bdc79ab7f0620c2bdf0d36f791b50fa4a418973dd7eace85d"), looks := false }, kinds := [], alts := [], laidByText := true, laidKinds := [.widerDeep], laidTests := true, laidLooks := .later }
def KindWrongCardSaid : Prop := Claim7.holds Tryd.pinned (.plain (OpenSpec.ofChange kindWrongSpec)) kindWrongCard

/-- THE TIED CARD OF 'prompterlaw05.KindNames'. -/
def kindNamesCard : Claim7 := { stood := { row := kindNamesRow, standIns := [], harness := (true, "a15ad4b29034c64bdc79ab7f0620c2bdf0d36f791b50fa4a418973dd7eace85d"), looks := false }, kinds := [], alts := [], laidByText := true, laidKinds := [.widerDeep], laidTests := true, laidLooks := .later }
def KindNamesCardSaid : Prop := Claim7.holds Tryd.pinned (.plain (OpenSpec.ofChange kindNamesSpec)) kindNamesCard

/-- THE TIED CARD OF 'prompterlaw05.KindDeep'. -/
def kindDeepCard : Claim7 := { stood := { row := kindDeepRow, standIns := [], harness := (true, "a15ad4b29034c64bdc79ab7f0620c2bdf0d36f791b50fa4a418973dd7eace85d"), looks := false }, kinds := [], alts := [], laidByText := true, laidKinds := [.widerDeep], laidTests := true, laidLooks := .later }
def KindDeepCardSaid : Prop := Claim7.holds Tryd.pinned (.plain (OpenSpec.ofChange kindDeepSpec)) kindDeepCard

/-- THE TIED CARD OF 'prompterlaw05.KindChecks'. -/
def kindChecksCard : Claim7 := { stood := { row := kindChecksRow, standIns := [], harness := (true, "a15ad4b29034c64bdc79ab7f0620c2bdf0d36f791b50fa4a418973dd7eace85d"), looks := false }, kinds := [], alts := [], laidByText := true, laidKinds := [.widerDeep], laidTests := true, laidLooks := .later }
def KindChecksCardSaid : Prop := Claim7.holds Tryd.pinned (.plain (OpenSpec.ofChange kindChecksSpec)) kindChecksCard

/-- THE TIED CARD OF 'prompterlaw05.KindAlike'. -/
def kindAlikeCard : Claim7 := { stood := { row := kindAlikeRow, standIns := [], harness := (true, "a15ad4b29034c64bdc79ab7f0620c2bdf0d36f791b50fa4a418973dd7eace85d"), looks := false }, kinds := [], alts := [], laidByText := true, laidKinds := [.widerDeep], laidTests := true, laidLooks := .later }
def KindAlikeCardSaid : Prop := Claim7.holds Tryd.pinned (.plain (OpenSpec.ofChange kindAlikeSpec)) kindAlikeCard

/-- THE TIED CARD OF 'prompterlaw05.KindWhole'. -/
def kindWholeCard : Claim7 := { stood := { row := kindWholeRow, standIns := [], harness := (true, "a15ad4b29034c64bdc79ab7f0620c2bdf0d36f791b50fa4a418973dd7eace85d"), looks := false }, kinds := [], alts := [], laidByText := true, laidKinds := [.widerDeep], laidTests := true, laidLooks := .later }
def KindWholeCardSaid : Prop := Claim7.holds Tryd.pinned (.plain (OpenSpec.ofChange kindWholeSpec)) kindWholeCard

/-- THE SECOND FORM's CARD OF 'prompterlaw05.KindWrong'. -/
def kindWrongUptoCard : Claim7 := { stood := { row := kindWrongUptoRow, standIns := [], harness := (true, "a15ad4b29034c64bdc79ab7f0620c2bdf0d36f791b50fa4a418973dd7eace85d"), looks := false }, kinds := [], alts := [], laidByText := true, laidKinds := [.widerDeep], laidTests := true, laidLooks := .later }
def KindWrongUptoCardSaid : Prop := Claim7.holds Tryd.pinned (.plain (OpenSpec.upto kindWrongSpec)) kindWrongUptoCard

/-- THE SECOND FORM's CARD OF 'prompterlaw05.KindNames'. -/
def kindNamesUptoCard : Claim7 := { stood := { row := kindNamesUptoRow, standIns := [], harness := (true, "a15ad4b29034c64bdc79ab7f0620c2bdf0d36f791b50fa4a418973dd7eace85d"), looks := false }, kinds := [], alts := [], laidByText := true, laidKinds := [.widerDeep], laidTests := true, laidLooks := .later }
def KindNamesUptoCardSaid : Prop := Claim7.holds Tryd.pinned (.plain (OpenSpec.upto kindNamesSpec)) kindNamesUptoCard

/-- THE SECOND FORM's CARD OF 'prompterlaw05.KindDeep'. -/
def kindDeepUptoCard : Claim7 := { stood := { row := kindDeepUptoRow, standIns := [], harness := (true, "a15ad4b29034c64bdc79ab7f0620c2bdf0d36f791b50fa4a418973dd7eace85d"), looks := false }, kinds := [], alts := [], laidByText := true, laidKinds := [.widerDeep], laidTests := true, laidLooks := .later }
def KindDeepUptoCardSaid : Prop := Claim7.holds Tryd.pinned (.plain (OpenSpec.upto kindDeepSpec)) kindDeepUptoCard

/-- THE SECOND FORM's CARD OF 'prompterlaw05.KindChecks'. -/
def kindChecksUptoCard : Claim7 := { stood := { row := kindChecksUptoRow, standIns := [], harness := (true, "a15ad4b29034c64bdc79ab7f0620c2bdf0d36f791b50fa4a418973dd7eace85d"), looks := false }, kinds := [], alts := [], laidByText := true, laidKinds := [.widerDeep], laidTests := true, laidLooks := .later }
def KindChecksUptoCardSaid : Prop := Claim7.holds Tryd.pinned (.plain (OpenSpec.upto kindChecksSpec)) kindChecksUptoCard

/-- THE SECOND FORM's CARD OF 'prompterlaw05.KindAlike'. -/
def kindAlikeUptoCard : Claim7 := { stood := { row := kindAlikeUptoRow, standIns := [], harness := (true, "a15ad4b29034c64bdc79ab7f0620c2bdf0d36f791b50fa4a418973dd7eace85d"), looks := false }, kinds := [], alts := [], laidByText := true, laidKinds := [.widerDeep], laidTests := true, laidLooks := .later }
def KindAlikeUptoCardSaid : Prop := Claim7.holds Tryd.pinned (.plain (OpenSpec.upto kindAlikeSpec)) kindAlikeUptoCard

/-- THE SECOND FORM's CARD OF 'prompterlaw05.KindWhole'. -/
def kindWholeUptoCard : Claim7 := { stood := { row := kindWholeUptoRow, standIns := [], harness := (true, "a15ad4b29034c64bdc79ab7f0620c2bdf0d36f791b50fa4a418973dd7eace85d"), looks := false }, kinds := [], alts := [], laidByText := true, laidKinds := [.widerDeep], laidTests := true, laidLooks := .later }
def KindWholeUptoCardSaid : Prop := Claim7.holds Tryd.pinned (.plain (OpenSpec.upto kindWholeSpec)) kindWholeUptoCard
end Rows
end Go.Proofs.YtmkfohiocklkoaaDoor
