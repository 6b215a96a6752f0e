/-
  DERIVED. GIVEN WITH THE SEED: THE CARDS: each row of YtejkaalhjocmgaaDoorRows.lean that lists a variable, with what it lists TIED to the program's text (the seventh form; the later family's looks); each row that meets fmt, with fmt's text TOLD by the authors' own Lean function (tested against real Go, not proved from fmt's source: count such statements apart). THE CARD IS WHAT COUNTS. Prove the row's statement (the work); the ties are given (YtejkaalhjocmgaaDoorTie.lean); close each card by the builder's one call (the guide's Derived/Test/ToyasCard.lean, 'card_holds'). Laid BY PROGRAM, IN A SANDBOX (cutbox-door.mjs). By AI agents, Wed Nov 11 2026. No macro, syntax, notation, axiom, sorry.
-/
import Derived.Test.YtejkaalhjocmgaaDoorRows
import GoSem.ClaimSeven
namespace Go.Proofs.YtejkaalhjocmgaaDoor
namespace Rows

/-- THE TIED CARD OF 'triglyphlaw19.VerifyTells'. -/
def verifyTellsCard : Claim7 := { stood := { row := verifyTellsRow, standIns := [], harness := (true, "e4c8466676b1592ed323e77e9215ad06c4a4077c413d702d92f07da923daeea5"), looks := false }, kinds := [], alts := [], laidByText := true, laidKinds := [.data, .listed, .data], laidTests := true, laidLooks := .later }
def VerifyTellsCardSaid : Prop := Claim7.holds Tryd.pinned (.plain (OpenSpec.ofChange verifyTellsSpec)) verifyTellsCard

/-- THE TIED CARD OF 'triglyphlaw19.VerifyTakes'. -/
def verifyTakesCard : Claim7 := { stood := { row := verifyTakesRow, standIns := [], harness := (true, "e4c8466676b1592ed323e77e9215ad06c4a4077c413d702d92f07da923daeea5"), looks := false }, kinds := [], alts := [], laidByText := true, laidKinds := [.data, .listed, .data], laidTests := true, laidLooks := .later }
def VerifyTakesCardSaid : Prop := Claim7.holds Tryd.pinned (.plain (OpenSpec.ofChange verifyTakesSpec)) verifyTakesCard

/-- THE TIED CARD OF 'triglyphlaw19.VerifyFollows'. -/
def verifyFollowsCard : Claim7 := { stood := { row := verifyFollowsRow, standIns := [], harness := (true, "e4c8466676b1592ed323e77e9215ad06c4a4077c413d702d92f07da923daeea5"), looks := false }, kinds := [], alts := [], laidByText := true, laidKinds := [.data, .listed, .data], laidTests := true, laidLooks := .later }
def VerifyFollowsCardSaid : Prop := Claim7.holds Tryd.pinned (.plain (OpenSpec.ofChange verifyFollowsSpec)) verifyFollowsCard

/-- THE TIED CARD OF 'triglyphlaw19.VerifyMore'. -/
def verifyMoreCard : Claim7 := { stood := { row := verifyMoreRow, standIns := [], harness := (true, "e4c8466676b1592ed323e77e9215ad06c4a4077c413d702d92f07da923daeea5"), looks := false }, kinds := [], alts := [], laidByText := true, laidKinds := [.data, .listed, .data], laidTests := true, laidLooks := .later }
def VerifyMoreCardSaid : Prop := Claim7.holds Tryd.pinned (.plain (OpenSpec.ofChange verifyMoreSpec)) verifyMoreCard

/-- THE SECOND FORM's CARD OF 'triglyphlaw19.VerifyTells'. -/
def verifyTellsUptoCard : Claim7 := { stood := { row := verifyTellsUptoRow, standIns := [], harness := (true, "e4c8466676b1592ed323e77e9215ad06c4a4077c413d702d92f07da923daeea5"), looks := false }, kinds := [], alts := [], laidByText := true, laidKinds := [.data, .listed, .data], laidTests := true, laidLooks := .later }
def VerifyTellsUptoCardSaid : Prop := Claim7.holds Tryd.pinned (.plain (OpenSpec.upto verifyTellsSpec)) verifyTellsUptoCard

/-- THE SECOND FORM's CARD OF 'triglyphlaw19.VerifyTakes'. -/
def verifyTakesUptoCard : Claim7 := { stood := { row := verifyTakesUptoRow, standIns := [], harness := (true, "e4c8466676b1592ed323e77e9215ad06c4a4077c413d702d92f07da923daeea5"), looks := false }, kinds := [], alts := [], laidByText := true, laidKinds := [.data, .listed, .data], laidTests := true, laidLooks := .later }
def VerifyTakesUptoCardSaid : Prop := Claim7.holds Tryd.pinned (.plain (OpenSpec.upto verifyTakesSpec)) verifyTakesUptoCard

/-- THE SECOND FORM's CARD OF 'triglyphlaw19.VerifyFollows'. -/
def verifyFollowsUptoCard : Claim7 := { stood := { row := verifyFollowsUptoRow, standIns := [], harness := (true, "e4c8466676b1592ed323e77e9215ad06c4a4077c413d702d92f07da923daeea5"), looks := false }, kinds := [], alts := [], laidByText := true, laidKinds := [.data, .listed, .data], laidTests := true, laidLooks := .later }
def VerifyFollowsUptoCardSaid : Prop := Claim7.holds Tryd.pinned (.plain (OpenSpec.upto verifyFollowsSpec)) verifyFollowsUptoCard

/-- THE SECOND FORM's CARD OF 'triglyphlaw19.VerifyMore'. -/
def verifyMoreUptoCard : Claim7 := { stood := { row := verifyMoreUptoRow, standIns := [], harness := (true, "e4c8466676b1592ed323e77e9215ad06c4a4077c413d702d92f07da923daeea5"), looks := false }, kinds := [], alts := [], laidByText := true, laidKinds := [.data, .listed, .data], laidTests := true, laidLooks := .later }
def VerifyMoreUptoCardSaid : Prop := Claim7.holds Tryd.pinned (.plain (OpenSpec.upto verifyMoreSpec)) verifyMoreUptoCard
end Rows
end Go.Proofs.YtejkaalhjocmgaaDoor
