/-
  DERIVED. GIVEN WITH THE SEED: THE CARDS: each row of YticnehmgaklhfaaDoorRows.lean that lists a variable, with what it lists TIED to the program's text (the seventh form; the later family's looks); each row that meets fmt, with fmt's text TOLD by the authors' own Lean function (tested against real Go, not proved from fmt's source: count such statements apart). THE CARD IS WHAT COUNTS. Prove the row's statement (the work); the ties are given (YticnehmgaklhfaaDoorTie.lean); close each card by the builder's one call (the guide's Derived/Test/ToyasCard.lean, 'card_holds'). Laid BY PROGRAM, IN A SANDBOX (cutbox-door.mjs). By AI agents, Wed Nov 11 2026. No macro, syntax, notation, axiom, sorry.
-/
import Derived.Test.YticnehmgaklhfaaDoorRows
import GoSem.ClaimSeven
namespace Go.Proofs.YticnehmgaklhfaaDoor
namespace Rows

/-- THE TIED CARD OF 'triglyphlaw10.DataFinds'. -/
def dataFindsCard : Claim7 := { stood := { row := dataFindsRow, standIns := [], harness := (true, "a86fa07e4067c368360d7caa4d1439c276d6542925fec31a2f48ae3d9ce62beb"), looks := false }, kinds := [], alts := [], laidByText := true, laidKinds := [.data, .data, .data, .listed, .data], laidTests := true, laidLooks := .later }
def DataFindsCardSaid : Prop := Claim7.holds Tryd.pinned (.plain (OpenSpec.ofChange dataFindsSpec)) dataFindsCard

/-- THE TIED CARD OF 'triglyphlaw10.DataParts'. -/
def dataPartsCard : Claim7 := { stood := { row := dataPartsRow, standIns := [], harness := (true, "a86fa07e4067c368360d7caa4d1439c276d6542925fec31a2f48ae3d9ce62beb"), looks := false }, kinds := [], alts := [], laidByText := true, laidKinds := [.data, .data, .data, .listed, .data], laidTests := true, laidLooks := .later }
def DataPartsCardSaid : Prop := Claim7.holds Tryd.pinned (.plain (OpenSpec.ofChange dataPartsSpec)) dataPartsCard

/-- THE TIED CARD OF 'triglyphlaw10.DataSigs'. -/
def dataSigsCard : Claim7 := { stood := { row := dataSigsRow, standIns := [], harness := (true, "a86fa07e4067c368360d7caa4d1439c276d6542925fec31a2f48ae3d9ce62beb"), looks := false }, kinds := [], alts := [], laidByText := true, laidKinds := [.data, .data, .data, .listed, .data], laidTests := true, laidLooks := .later }
def DataSigsCardSaid : Prop := Claim7.holds Tryd.pinned (.plain (OpenSpec.ofChange dataSigsSpec)) dataSigsCard

/-- THE TIED CARD OF 'triglyphlaw10.DataMore'. -/
def dataMoreCard : Claim7 := { stood := { row := dataMoreRow, standIns := [], harness := (true, "a86fa07e4067c368360d7caa4d1439c276d6542925fec31a2f48ae3d9ce62beb"), looks := false }, kinds := [], alts := [], laidByText := true, laidKinds := [.data, .data, .data, .listed, .data], laidTests := true, laidLooks := .later }
def DataMoreCardSaid : Prop := Claim7.holds Tryd.pinned (.plain (OpenSpec.ofChange dataMoreSpec)) dataMoreCard

/-- THE SECOND FORM's CARD OF 'triglyphlaw10.DataFinds'. -/
def dataFindsUptoCard : Claim7 := { stood := { row := dataFindsUptoRow, standIns := [], harness := (true, "a86fa07e4067c368360d7caa4d1439c276d6542925fec31a2f48ae3d9ce62beb"), looks := false }, kinds := [], alts := [], laidByText := true, laidKinds := [.data, .data, .data, .listed, .data], laidTests := true, laidLooks := .later }
def DataFindsUptoCardSaid : Prop := Claim7.holds Tryd.pinned (.plain (OpenSpec.upto dataFindsSpec)) dataFindsUptoCard

/-- THE SECOND FORM's CARD OF 'triglyphlaw10.DataParts'. -/
def dataPartsUptoCard : Claim7 := { stood := { row := dataPartsUptoRow, standIns := [], harness := (true, "a86fa07e4067c368360d7caa4d1439c276d6542925fec31a2f48ae3d9ce62beb"), looks := false }, kinds := [], alts := [], laidByText := true, laidKinds := [.data, .data, .data, .listed, .data], laidTests := true, laidLooks := .later }
def DataPartsUptoCardSaid : Prop := Claim7.holds Tryd.pinned (.plain (OpenSpec.upto dataPartsSpec)) dataPartsUptoCard

/-- THE SECOND FORM's CARD OF 'triglyphlaw10.DataSigs'. -/
def dataSigsUptoCard : Claim7 := { stood := { row := dataSigsUptoRow, standIns := [], harness := (true, "a86fa07e4067c368360d7caa4d1439c276d6542925fec31a2f48ae3d9ce62beb"), looks := false }, kinds := [], alts := [], laidByText := true, laidKinds := [.data, .data, .data, .listed, .data], laidTests := true, laidLooks := .later }
def DataSigsUptoCardSaid : Prop := Claim7.holds Tryd.pinned (.plain (OpenSpec.upto dataSigsSpec)) dataSigsUptoCard

/-- THE SECOND FORM's CARD OF 'triglyphlaw10.DataMore'. -/
def dataMoreUptoCard : Claim7 := { stood := { row := dataMoreUptoRow, standIns := [], harness := (true, "a86fa07e4067c368360d7caa4d1439c276d6542925fec31a2f48ae3d9ce62beb"), looks := false }, kinds := [], alts := [], laidByText := true, laidKinds := [.data, .data, .data, .listed, .data], laidTests := true, laidLooks := .later }
def DataMoreUptoCardSaid : Prop := Claim7.holds Tryd.pinned (.plain (OpenSpec.upto dataMoreSpec)) dataMoreUptoCard
end Rows
end Go.Proofs.YticnehmgaklhfaaDoor
