/-
  DERIVED. GIVEN WITH THE SEED: THE CARDS: each row of YtegdpagjloidnaaGreatDoorRows.lean that lists a variable, with what it lists TIED to the program's text (the seventh form; the later family's looks); each row that meets fmt, with fmt's text TOLD by the authors' own Lean function (tested against real Go, not proved from fmt's source: count such statements apart). THE CARD IS WHAT COUNTS. Prove the row's statement (the work); the ties are given (YtegdpagjloidnaaGreatDoorTie.lean); close each card by the builder's one call (the guide's Derived/Test/ToyasCard.lean, 'card_holds'). Laid BY PROGRAM, IN A SANDBOX (cutbox-door.mjs). By AI agents, Wed Nov 11 2026. No macro, syntax, notation, axiom, sorry.
-/
import Derived.Test.YtegdpagjloidnaaGreatDoorRows
import GoSem.ClaimSeven
namespace Go.Proofs.YtegdpagjloidnaaGreatDoor
namespace Rows

/-- THE TIED CARD OF 'sluicelaw22.KeeperEncodes'. -/
def keeperEncodesCard : Claim7 := { stood := { row := keeperEncodesRow, standIns := [], harness := (true, "230ef6c5b794d44600291bfa7e2818e9733687a5afd3c28b714ef42f148a3906"), looks := true }, kinds := [], alts := [], laidByText := true, laidKinds := [.data, .sentinel, .sentinel, .sentinel], laidTests := true, laidLooks := .later }
def KeeperEncodesCardSaid : Prop := Claim7.holds Tryz.pinned (.plain (OpenSpec.ofChange keeperEncodesSpec)) keeperEncodesCard

/-- THE TIED CARD OF 'sluicelaw22.KeeperDecodes'. -/
def keeperDecodesCard : Claim7 := { stood := { row := keeperDecodesRow, standIns := [], harness := (true, "230ef6c5b794d44600291bfa7e2818e9733687a5afd3c28b714ef42f148a3906"), looks := true }, kinds := [], alts := [], laidByText := true, laidKinds := [.data, .sentinel, .sentinel, .sentinel], laidTests := true, laidLooks := .later }
def KeeperDecodesCardSaid : Prop := Claim7.holds Tryz.pinned (.plain (OpenSpec.ofChange keeperDecodesSpec)) keeperDecodesCard

/-- THE TIED CARD OF 'sluicelaw22.KeeperOneForm'. -/
def keeperOneFormCard : Claim7 := { stood := { row := keeperOneFormRow, standIns := [], harness := (true, "230ef6c5b794d44600291bfa7e2818e9733687a5afd3c28b714ef42f148a3906"), looks := true }, kinds := [], alts := [], laidByText := true, laidKinds := [.data, .sentinel, .sentinel, .sentinel], laidTests := true, laidLooks := .later }
def KeeperOneFormCardSaid : Prop := Claim7.holds Tryz.pinned (.plain (OpenSpec.ofChange keeperOneFormSpec)) keeperOneFormCard

/-- THE SECOND FORM's CARD OF 'sluicelaw22.KeeperEncodes'. -/
def keeperEncodesUptoCard : Claim7 := { stood := { row := keeperEncodesUptoRow, standIns := [], harness := (true, "230ef6c5b794d44600291bfa7e2818e9733687a5afd3c28b714ef42f148a3906"), looks := true }, kinds := [], alts := [], laidByText := true, laidKinds := [.data, .sentinel, .sentinel, .sentinel], laidTests := true, laidLooks := .later }
def KeeperEncodesUptoCardSaid : Prop := Claim7.holds Tryz.pinned (.plain (OpenSpec.upto keeperEncodesSpec)) keeperEncodesUptoCard

/-- THE SECOND FORM's CARD OF 'sluicelaw22.KeeperDecodes'. -/
def keeperDecodesUptoCard : Claim7 := { stood := { row := keeperDecodesUptoRow, standIns := [], harness := (true, "230ef6c5b794d44600291bfa7e2818e9733687a5afd3c28b714ef42f148a3906"), looks := true }, kinds := [], alts := [], laidByText := true, laidKinds := [.data, .sentinel, .sentinel, .sentinel], laidTests := true, laidLooks := .later }
def KeeperDecodesUptoCardSaid : Prop := Claim7.holds Tryz.pinned (.plain (OpenSpec.upto keeperDecodesSpec)) keeperDecodesUptoCard

/-- THE SECOND FORM's CARD OF 'sluicelaw22.KeeperOneForm'. -/
def keeperOneFormUptoCard : Claim7 := { stood := { row := keeperOneFormUptoRow, standIns := [], harness := (true, "230ef6c5b794d44600291bfa7e2818e9733687a5afd3c28b714ef42f148a3906"), looks := true }, kinds := [], alts := [], laidByText := true, laidKinds := [.data, .sentinel, .sentinel, .sentinel], laidTests := true, laidLooks := .later }
def KeeperOneFormUptoCardSaid : Prop := Claim7.holds Tryz.pinned (.plain (OpenSpec.upto keeperOneFormSpec)) keeperOneFormUptoCard
end Rows
end Go.Proofs.YtegdpagjloidnaaGreatDoor
