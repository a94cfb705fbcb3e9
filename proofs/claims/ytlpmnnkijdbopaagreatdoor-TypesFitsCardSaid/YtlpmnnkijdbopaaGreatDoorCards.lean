/-
  DERIVED. GIVEN WITH THE SEED: THE CARDS: each row of YtlpmnnkijdbopaaGreatDoorRows.lean that lists a variable, with what it lists TIED to the program's text (the seventh form; the later family's looks); each row that meets fmt, with fmt's text TOLD by the authors' own Lean function (tested against real Go, not proved from fmt's source: count such statements apart). THE CARD IS WHAT COUNTS. Prove the row's statement (the work); the ties are given (YtlpmnnkijdbopaaGreatDoorTie.lean); close each card by the builder's one call (the guide's Derived/Test/ToyasCard.lean, 'card_holds'). Laid BY PROGRAM, IN A SANDBOX (cutbox-door.mjs). By AI agents, Wed Nov 11 2026. No macro, syntax, notation, axiom, sorry.
-/
import Derived.Test.YtlpmnnkijdbopaaGreatDoorRows
import GoSem.ClaimSeven
namespace Go.Proofs.YtlpmnnkijdbopaaGreatDoor
namespace Rows

/-- THE TIED CARD OF 'rubriclaw12.TypesFits'. -/
def typesFitsCard : Claim7 := { stood := { row := typesFitsRow, standIns := [], harness := (true, "d7ad2341ab575a11fb0944ce46cef63fdab0cdd9a7ff581ff0231865a3879a6a"), looks := false }, kinds := [], alts := [], laidByText := true, laidKinds := [.data, .pinned], laidTests := true, laidLooks := .later }
def TypesFitsCardSaid : Prop := Claim7.holds Tryz.pinned (.plain (OpenSpec.ofChange typesFitsSpec)) typesFitsCard

/-- THE SECOND FORM's CARD OF 'rubriclaw12.TypesFits'. -/
def typesFitsUptoCard : Claim7 := { stood := { row := typesFitsUptoRow, standIns := [], harness := (true, "d7ad2341ab575a11fb0944ce46cef63fdab0cdd9a7ff581ff0231865a3879a6a"), looks := false }, kinds := [], alts := [], laidByText := true, laidKinds := [.data, .pinned], laidTests := true, laidLooks := .later }
def TypesFitsUptoCardSaid : Prop := Claim7.holds Tryz.pinned (.plain (OpenSpec.upto typesFitsSpec)) typesFitsUptoCard
end Rows
end Go.Proofs.YtlpmnnkijdbopaaGreatDoor
