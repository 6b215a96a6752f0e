/-
  DERIVED. GIVEN WITH THE SEED: THE CARDS: each row of YtgonllogaiiicaaDoorRows.lean that lists a variable, with what it lists TIED to the program's text (the seventh form; the later family's looks); each row that meets fmt, with fmt's text TOLD by the authors' own Lean function (tested against real Go, not proved from fmt's source: count such statements apart). THE CARD IS WHAT COUNTS. Prove the row's statement (the work); the ties are given (YtgonllogaiiicaaDoorTie.lean); close each card by the builder's one call (the guide's Derived/Test/ToyasCard.lean, 'card_holds'). Laid BY PROGRAM, IN A SANDBOX (cutbox-door.mjs). By AI agents, Wed Nov 11 2026. No macro, syntax, notation, axiom, sorry.
-/
import Derived.Test.YtgonllogaiiicaaDoorRows
import GoSem.ClaimSeven
namespace Go.Proofs.YtgonllogaiiicaaDoor
namespace Rows

/-- THE TIED CARD OF 'triglyphlaw17.TextShows'. -/
def textShowsCard : Claim7 := { stood := { row := textShowsRow, standIns := [], harness := (true, "07cfd42950ac6a1795829f23656d83ab2cf59e7812238801807f5f7313635a00"), looks := false }, kinds := [], alts := [], laidByText := true, laidKinds := [.data, .data, .data, .data, .data, .data, .pinned], laidTests := true, laidLooks := .later }
def TextShowsCardSaid : Prop := Claim7.holds Tryd.pinned (.plain (OpenSpec.ofChange textShowsSpec)) textShowsCard

/-- THE TIED CARD OF 'triglyphlaw17.TextReads'. -/
def textReadsCard : Claim7 := { stood := { row := textReadsRow, standIns := [], harness := (true, "07cfd42950ac6a1795829f23656d83ab2cf59e7812238801807f5f7313635a00"), looks := false }, kinds := [], alts := [], laidByText := true, laidKinds := [.data, .data, .data, .data, .data, .data, .pinned], laidTests := true, laidLooks := .later }
def TextReadsCardSaid : Prop := Claim7.holds Tryd.pinned (.plain (OpenSpec.ofChange textReadsSpec)) textReadsCard

/-- THE TIED CARD OF 'triglyphlaw17.TextBack'. -/
def textBackCard : Claim7 := { stood := { row := textBackRow, standIns := [], harness := (true, "07cfd42950ac6a1795829f23656d83ab2cf59e7812238801807f5f7313635a00"), looks := false }, kinds := [], alts := [], laidByText := true, laidKinds := [.data, .data, .data, .data, .data, .data, .pinned], laidTests := true, laidLooks := .later }
def TextBackCardSaid : Prop := Claim7.holds Tryd.pinned (.plain (OpenSpec.ofChange textBackSpec)) textBackCard

/-- THE TIED CARD OF 'triglyphlaw17.TextAgain'. -/
def textAgainCard : Claim7 := { stood := { row := textAgainRow, standIns := [], harness := (true, "07cfd42950ac6a1795829f23656d83ab2cf59e7812238801807f5f7313635a00"), looks := false }, kinds := [], alts := [], laidByText := true, laidKinds := [.data, .data, .data, .data, .data, .data, .pinned], laidTests := true, laidLooks := .later }
def TextAgainCardSaid : Prop := Claim7.holds Tryd.pinned (.plain (OpenSpec.ofChange textAgainSpec)) textAgainCard

/-- THE TIED CARD OF 'triglyphlaw17.TextLabels'. -/
def textLabelsCard : Claim7 := { stood := { row := textLabelsRow, standIns := [], harness := (true, "07cfd42950ac6a1795829f23656d83ab2cf59e7812238801807f5f7313635a00"), looks := false }, kinds := [], alts := [], laidByText := true, laidKinds := [.data, .data, .data, .data, .data, .data, .pinned], laidTests := true, laidLooks := .later }
def TextLabelsCardSaid : Prop := Claim7.holds Tryd.pinned (.plain (OpenSpec.ofChange textLabelsSpec)) textLabelsCard

/-- THE TIED CARD OF 'triglyphlaw17.TextNames'. -/
def textNamesCard : Claim7 := { stood := { row := textNamesRow, standIns := [], harness := (true, "07cfd42950ac6a1795829f23656d83ab2cf59e7812238801807f5f7313635a00"), looks := false }, kinds := [], alts := [], laidByText := true, laidKinds := [.data, .data, .data, .data, .data, .data, .pinned], laidTests := true, laidLooks := .later }
def TextNamesCardSaid : Prop := Claim7.holds Tryd.pinned (.plain (OpenSpec.ofChange textNamesSpec)) textNamesCard

/-- THE SECOND FORM's CARD OF 'triglyphlaw17.TextShows'. -/
def textShowsUptoCard : Claim7 := { stood := { row := textShowsUptoRow, standIns := [], harness := (true, "07cfd42950ac6a1795829f23656d83ab2cf59e7812238801807f5f7313635a00"), looks := false }, kinds := [], alts := [], laidByText := true, laidKinds := [.data, .data, .data, .data, .data, .data, .pinned], laidTests := true, laidLooks := .later }
def TextShowsUptoCardSaid : Prop := Claim7.holds Tryd.pinned (.plain (OpenSpec.upto textShowsSpec)) textShowsUptoCard

/-- THE SECOND FORM's CARD OF 'triglyphlaw17.TextReads'. -/
def textReadsUptoCard : Claim7 := { stood := { row := textReadsUptoRow, standIns := [], harness := (true, "07cfd42950ac6a1795829f23656d83ab2cf59e7812238801807f5f7313635a00"), looks := false }, kinds := [], alts := [], laidByText := true, laidKinds := [.data, .data, .data, .data, .data, .data, .pinned], laidTests := true, laidLooks := .later }
def TextReadsUptoCardSaid : Prop := Claim7.holds Tryd.pinned (.plain (OpenSpec.upto textReadsSpec)) textReadsUptoCard

/-- THE SECOND FORM's CARD OF 'triglyphlaw17.TextBack'. -/
def textBackUptoCard : Claim7 := { stood := { row := textBackUptoRow, standIns := [], harness := (true, "07cfd42950ac6a1795829f23656d83ab2cf59e7812238801807f5f7313635a00"), looks := false }, kinds := [], alts := [], laidByText := true, laidKinds := [.data, .data, .data, .data, .data, .data, .pinned], laidTests := true, laidLooks := .later }
def TextBackUptoCardSaid : Prop := Claim7.holds Tryd.pinned (.plain (OpenSpec.upto textBackSpec)) textBackUptoCard

/-- THE SECOND FORM's CARD OF 'triglyphlaw17.TextAgain'. -/
def textAgainUptoCard : Claim7 := { stood := { row := textAgainUptoRow, standIns := [], harness := (true, "07cfd42950ac6a1795829f23656d83ab2cf59e7812238801807f5f7313635a00"), looks := false }, kinds := [], alts := [], laidByText := true, laidKinds := [.data, .data, .data, .data, .data, .data, .pinned], laidTests := true, laidLooks := .later }
def TextAgainUptoCardSaid : Prop := Claim7.holds Tryd.pinned (.plain (OpenSpec.upto textAgainSpec)) textAgainUptoCard

/-- THE SECOND FORM's CARD OF 'triglyphlaw17.TextLabels'. -/
def textLabelsUptoCard : Claim7 := { stood := { row := textLabelsUptoRow, standIns := [], harness := (true, "07cfd42950ac6a1795829f23656d83ab2cf59e7812238801807f5f7313635a00"), looks := false }, kinds := [], alts := [], laidByText := true, laidKinds := [.data, .data, .data, .data, .data, .data, .pinned], laidTests := true, laidLooks := .later }
def TextLabelsUptoCardSaid : Prop := Claim7.holds Tryd.pinned (.plain (OpenSpec.upto textLabelsSpec)) textLabelsUptoCard

/-- THE SECOND FORM's CARD OF 'triglyphlaw17.TextNames'. -/
def textNamesUptoCard : Claim7 := { stood := { row := textNamesUptoRow, standIns := [], harness := (true, "07cfd42950ac6a1795829f23656d83ab2cf59e7812238801807f5f7313635a00"), looks := false }, kinds := [], alts := [], laidByText := true, laidKinds := [.data, .data, .data, .data, .data, .data, .pinned], laidTests := true, laidLooks := .later }
def TextNamesUptoCardSaid : Prop := Claim7.holds Tryd.pinned (.plain (OpenSpec.upto textNamesSpec)) textNamesUptoCard
end Rows
end Go.Proofs.YtgonllogaiiicaaDoor
