/-
  DERIVED. GIVEN WITH THE SEED: THE CARDS: each row of YtinekmjengckdaaGreatDoorRows.lean that lists a variable, with what it lists TIED to the program's text (the seventh form; the later family's looks); each row that meets fmt, with fmt's text TOLD by the authors' own Lean function (tested against real Go, not proved from fmt's source: count such statements apart). THE CARD IS WHAT COUNTS. Prove the row's statement (the work); the ties are given (YtinekmjengckdaaGreatDoorTie.lean); close each card by the builder's one call (the guide's Derived/Test/ToyasCard.lean, 'card_holds'). Laid BY PROGRAM, IN A SANDBOX (cutbox-door.mjs). By AI agents, Wed Nov 11 2026. No macro, syntax, notation, axiom, sorry.
-/
import Derived.Test.YtinekmjengckdaaGreatDoorRows
import GoSem.ClaimSeven
namespace Go.Proofs.YtinekmjengckdaaGreatDoor
namespace Rows

/-- THE TIED CARD OF 'triglyphlaw23.IfacePuts'. -/
def ifacePutsCard : Claim7 := { stood := { row := ifacePutsRow, standIns := [], harness := (true, "39c7300324806c6cbfe5c0161aee06e22058f9b6fadb20fdd3a5c4ce163557d7"), looks := false }, kinds := [], alts := [], laidByText := true, laidKinds := [.listed, .data], laidTests := true, laidLooks := .later }
def IfacePutsCardSaid : Prop := Claim7.holds Tryz.pinned (.plain (OpenSpec.ofChange ifacePutsSpec)) ifacePutsCard

/-- THE TIED CARD OF 'triglyphlaw23.IfaceGets'. -/
def ifaceGetsCard : Claim7 := { stood := { row := ifaceGetsRow, standIns := [], harness := (true, "39c7300324806c6cbfe5c0161aee06e22058f9b6fadb20fdd3a5c4ce163557d7"), looks := false }, kinds := [], alts := [], laidByText := true, laidKinds := [.listed, .data], laidTests := true, laidLooks := .later }
def IfaceGetsCardSaid : Prop := Claim7.holds Tryz.pinned (.plain (OpenSpec.ofChange ifaceGetsSpec)) ifaceGetsCard

/-- THE TIED CARD OF 'triglyphlaw23.IfaceBack'. -/
def ifaceBackCard : Claim7 := { stood := { row := ifaceBackRow, standIns := [], harness := (true, "39c7300324806c6cbfe5c0161aee06e22058f9b6fadb20fdd3a5c4ce163557d7"), looks := false }, kinds := [], alts := [], laidByText := true, laidKinds := [.listed, .data], laidTests := true, laidLooks := .later }
def IfaceBackCardSaid : Prop := Claim7.holds Tryz.pinned (.plain (OpenSpec.ofChange ifaceBackSpec)) ifaceBackCard

/-- THE TIED CARD OF 'triglyphlaw23.IfaceOnly'. -/
def ifaceOnlyCard : Claim7 := { stood := { row := ifaceOnlyRow, standIns := [], harness := (true, "39c7300324806c6cbfe5c0161aee06e22058f9b6fadb20fdd3a5c4ce163557d7"), looks := false }, kinds := [], alts := [], laidByText := true, laidKinds := [.listed, .data], laidTests := true, laidLooks := .later }
def IfaceOnlyCardSaid : Prop := Claim7.holds Tryz.pinned (.plain (OpenSpec.ofChange ifaceOnlySpec)) ifaceOnlyCard

/-- THE TIED CARD OF 'triglyphlaw23.IfaceTurned'. -/
def ifaceTurnedCard : Claim7 := { stood := { row := ifaceTurnedRow, standIns := [], harness := (true, "39c7300324806c6cbfe5c0161aee06e22058f9b6fadb20fdd3a5c4ce163557d7"), looks := false }, kinds := [], alts := [], laidByText := true, laidKinds := [.listed, .data], laidTests := true, laidLooks := .later }
def IfaceTurnedCardSaid : Prop := Claim7.holds Tryz.pinned (.plain (OpenSpec.ofChange ifaceTurnedSpec)) ifaceTurnedCard

/-- THE TIED CARD OF 'triglyphlaw23.IfaceDigests'. -/
def ifaceDigestsCard : Claim7 := { stood := { row := ifaceDigestsRow, standIns := [], harness := (true, "39c7300324806c6cbfe5c0161aee06e22058f9b6fadb20fdd3a5c4ce163557d7"), looks := false }, kinds := [], alts := [], laidByText := true, laidKinds := [.listed, .data], laidTests := true, laidLooks := .later }
def IfaceDigestsCardSaid : Prop := Claim7.holds Tryz.pinned (.plain (OpenSpec.ofChange ifaceDigestsSpec)) ifaceDigestsCard

/-- THE SECOND FORM's CARD OF 'triglyphlaw23.IfacePuts'. -/
def ifacePutsUptoCard : Claim7 := { stood := { row := ifacePutsUptoRow, standIns := [], harness := (true, "39c7300324806c6cbfe5c0161aee06e22058f9b6fadb20fdd3a5c4ce163557d7"), looks := false }, kinds := [], alts := [], laidByText := true, laidKinds := [.listed, .data], laidTests := true, laidLooks := .later }
def IfacePutsUptoCardSaid : Prop := Claim7.holds Tryz.pinned (.plain (OpenSpec.upto ifacePutsSpec)) ifacePutsUptoCard

/-- THE SECOND FORM's CARD OF 'triglyphlaw23.IfaceGets'. -/
def ifaceGetsUptoCard : Claim7 := { stood := { row := ifaceGetsUptoRow, standIns := [], harness := (true, "39c7300324806c6cbfe5c0161aee06e22058f9b6fadb20fdd3a5c4ce163557d7"), looks := false }, kinds := [], alts := [], laidByText := true, laidKinds := [.listed, .data], laidTests := true, laidLooks := .later }
def IfaceGetsUptoCardSaid : Prop := Claim7.holds Tryz.pinned (.plain (OpenSpec.upto ifaceGetsSpec)) ifaceGetsUptoCard

/-- THE SECOND FORM's CARD OF 'triglyphlaw23.IfaceBack'. -/
def ifaceBackUptoCard : Claim7 := { stood := { row := ifaceBackUptoRow, standIns := [], harness := (true, "39c7300324806c6cbfe5c0161aee06e22058f9b6fadb20fdd3a5c4ce163557d7"), looks := false }, kinds := [], alts := [], laidByText := true, laidKinds := [.listed, .data], laidTests := true, laidLooks := .later }
def IfaceBackUptoCardSaid : Prop := Claim7.holds Tryz.pinned (.plain (OpenSpec.upto ifaceBackSpec)) ifaceBackUptoCard

/-- THE SECOND FORM's CARD OF 'triglyphlaw23.IfaceOnly'. -/
def ifaceOnlyUptoCard : Claim7 := { stood := { row := ifaceOnlyUptoRow, standIns := [], harness := (true, "39c7300324806c6cbfe5c0161aee06e22058f9b6fadb20fdd3a5c4ce163557d7"), looks := false }, kinds := [], alts := [], laidByText := true, laidKinds := [.listed, .data], laidTests := true, laidLooks := .later }
def IfaceOnlyUptoCardSaid : Prop := Claim7.holds Tryz.pinned (.plain (OpenSpec.upto ifaceOnlySpec)) ifaceOnlyUptoCard

/-- THE SECOND FORM's CARD OF 'triglyphlaw23.IfaceTurned'. -/
def ifaceTurnedUptoCard : Claim7 := { stood := { row := ifaceTurnedUptoRow, standIns := [], harness := (true, "39c7300324806c6cbfe5c0161aee06e22058f9b6fadb20fdd3a5c4ce163557d7"), looks := false }, kinds := [], alts := [], laidByText := true, laidKinds := [.listed, .data], laidTests := true, laidLooks := .later }
def IfaceTurnedUptoCardSaid : Prop := Claim7.holds Tryz.pinned (.plain (OpenSpec.upto ifaceTurnedSpec)) ifaceTurnedUptoCard

/-- THE SECOND FORM's CARD OF 'triglyphlaw23.IfaceDigests'. -/
def ifaceDigestsUptoCard : Claim7 := { stood := { row := ifaceDigestsUptoRow, standIns := [], harness := (true, "39c7300324806c6cbfe5c0161aee06e22058f9b6fadb20fdd3a5c4ce163557d7"), looks := false }, kinds := [], alts := [], laidByText := true, laidKinds := [.listed, .data], laidTests := true, laidLooks := .later }
def IfaceDigestsUptoCardSaid : Prop := Claim7.holds Tryz.pinned (.plain (OpenSpec.upto ifaceDigestsSpec)) ifaceDigestsUptoCard
end Rows
end Go.Proofs.YtinekmjengckdaaGreatDoor
