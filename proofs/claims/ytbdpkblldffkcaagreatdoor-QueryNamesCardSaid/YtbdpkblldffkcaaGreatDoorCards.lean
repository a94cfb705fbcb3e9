/-
  DERIVED. GIVEN WITH THE SEED: THE CARDS: each row of YtbdpkblldffkcaaGreatDoorRows.lean that lists a variable, with what it lists TIED to the program's text (the seventh form; the later family's looks); each row that meets fmt, with fmt's text TOLD by the authors' own Lean function (tested against real Go, not proved from fmt's source: count such statements apart). THE CARD IS WHAT COUNTS. Prove the row's statement (the work); the ties are given (YtbdpkblldffkcaaGreatDoorTie.lean); close each card by the builder's one call (the guide's Derived/Test/ToyasCard.lean, 'card_holds'). Laid BY PROGRAM, IN A SANDBOX (cutbox-door.mjs). By AI agents, Wed Nov 11 2026. No macro, syntax, notation, axiom, sorry.
-/
import Derived.Test.YtbdpkblldffkcaaGreatDoorRows
import GoSem.ClaimSeven
namespace Go.Proofs.YtbdpkblldffkcaaGreatDoor
namespace Rows

/-- THE TIED CARD OF 'rubriclaw09.QueryNames'. -/
def queryNamesCard : Claim7 := { stood := { row := queryNamesRow, standIns := [], harness := (true, "411837c9f231f7fe78563903984712750d0a8275e54a8c2d35f948e4aa02d5d0"), looks := false }, kinds := [], alts := [], laidByText := true, laidKinds := [.data, .pinned], laidTests := true, laidLooks := .later }
def QueryNamesCardSaid : Prop := Claim7.holds Tryz.pinned (.plain (OpenSpec.ofChange queryNamesSpec)) queryNamesCard

/-- THE SECOND FORM's CARD OF 'rubriclaw09.QueryNames'. -/
def queryNamesUptoCard : Claim7 := { stood := { row := queryNamesUptoRow, standIns := [], harness := (true, "411837c9f231f7fe78563903984712750d0a8275e54a8c2d35f948e4aa02d5d0"), looks := false }, kinds := [], alts := [], laidByText := true, laidKinds := [.data, .pinned], laidTests := true, laidLooks := .later }
def QueryNamesUptoCardSaid : Prop := Claim7.holds Tryz.pinned (.plain (OpenSpec.upto queryNamesSpec)) queryNamesUptoCard
end Rows
end Go.Proofs.YtbdpkblldffkcaaGreatDoor
