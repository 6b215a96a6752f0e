/-
  DERIVED. GIVEN WITH THE SEED: THE CARDS: each row of YticnehmgaklhfaaGreatDoorRows.lean that lists a variable, with what it lists TIED to the program's text (the seventh form; the later family's looks); each row that meets fmt, with fmt's text TOLD by the authors' own Lean function (tested against real Go, not proved from fmt's source: count such statements apart). THE CARD IS WHAT COUNTS. Prove the row's statement (the work); the ties are given (YticnehmgaklhfaaGreatDoorTie.lean); close each card by the builder's one call (the guide's Derived/Test/ToyasCard.lean, 'card_holds'). Laid BY PROGRAM, IN A SANDBOX (cutbox-door.mjs). By AI agents, Wed Nov 11 2026. No macro, syntax, notation, axiom, sorry.
-/
import Derived.Test.YticnehmgaklhfaaGreatDoorRows
import GoSem.ClaimSeven
namespace Go.Proofs.YticnehmgaklhfaaGreatDoor
namespace Rows

/-- THE TIED CARD OF 'triglyphlaw10.DataChecks'. -/
def dataChecksCard : Claim7 := { stood := { row := dataChecksRow, standIns := [], harness := (true, "74eff4af45911e4bc9786ac739c44c473481f0d43f52470cb2c3e730e4b444ed"), looks := false }, kinds := [], alts := [], laidByText := true, laidKinds := [.data, .data, .data, .listed, .data], laidTests := true, laidLooks := .later }
def DataChecksCardSaid : Prop := Claim7.holds Tryz.pinned (.plain (OpenSpec.ofChange dataChecksSpec)) dataChecksCard

/-- THE TIED CARD OF 'triglyphlaw10.DataArrows'. -/
def dataArrowsCard : Claim7 := { stood := { row := dataArrowsRow, standIns := [], harness := (true, "74eff4af45911e4bc9786ac739c44c473481f0d43f52470cb2c3e730e4b444ed"), looks := false }, kinds := [], alts := [], laidByText := true, laidKinds := [.data, .data, .data, .listed, .data], laidTests := true, laidLooks := .later }
def DataArrowsCardSaid : Prop := Claim7.holds Tryz.pinned (.plain (OpenSpec.ofChange dataArrowsSpec)) dataArrowsCard

/-- THE SECOND FORM's CARD OF 'triglyphlaw10.DataChecks'. -/
def dataChecksUptoCard : Claim7 := { stood := { row := dataChecksUptoRow, standIns := [], harness := (true, "74eff4af45911e4bc9786ac739c44c473481f0d43f52470cb2c3e730e4b444ed"), looks := false }, kinds := [], alts := [], laidByText := true, laidKinds := [.data, .data, .data, .listed, .data], laidTests := true, laidLooks := .later }
def DataChecksUptoCardSaid : Prop := Claim7.holds Tryz.pinned (.plain (OpenSpec.upto dataChecksSpec)) dataChecksUptoCard

/-- THE SECOND FORM's CARD OF 'triglyphlaw10.DataArrows'. -/
def dataArrowsUptoCard : Claim7 := { stood := { row := dataArrowsUptoRow, standIns := [], harness := (true, "74eff4af45911e4bc9786ac739c44c473481f0d43f52470cb2c3e730e4b444ed"), looks := false }, kinds := [], alts := [], laidByText := true, laidKinds := [.data, .data, .data, .listed, .data], laidTests := true, laidLooks := .later }
def DataArrowsUptoCardSaid : Prop := Claim7.holds Tryz.pinned (.plain (OpenSpec.upto dataArrowsSpec)) dataArrowsUptoCard
end Rows
end Go.Proofs.YticnehmgaklhfaaGreatDoor
