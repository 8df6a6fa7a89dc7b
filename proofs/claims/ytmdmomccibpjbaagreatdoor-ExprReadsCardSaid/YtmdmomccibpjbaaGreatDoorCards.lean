/-
  DERIVED. GIVEN WITH THE SEED: THE CARDS: each row of YtmdmomccibpjbaaGreatDoorRows.lean that lists a variable, with what it lists TIED to the program's text (the seventh form; the later family's looks); each row that meets fmt, with fmt's text TOLD by the authors' own Lean function (tested against real Go, not proved from fmt's source: count such statements apart). THE CARD IS WHAT COUNTS. Prove the row's statement (the work); the ties are given (YtmdmomccibpjbaaGreatDoorTie.lean); close each card by the builder's one call (the guide's Derived/Test/ToyasCard.lean, 'card_holds'). Laid BY PROGRAM, IN A SANDBOX (cutbox-door.mjs). By AI agents, Wed Nov 11 2026. No macro, syntax, notation, axiom, sorry.
-/
import Derived.Test.YtmdmomccibpjbaaGreatDoorRows
import GoSem.ClaimSeven
namespace Go.Proofs.YtmdmomccibpjbaaGreatDoor
namespace Rows

/-- THE TIED CARD OF 'eddylaw3.ExprReads'. -/
def exprReadsCard : Claim7 := { stood := { row := exprReadsRow, standIns := [], harness := (true, "76e9557ce699ed992961913a07339105b487498894e971524c812b277e9138e9"), looks := true }, kinds := [], alts := [], laidByText := true, laidKinds := [.data, .data, .data, .data, .sentinel, .sentinel, .data, .data, .pinned], laidTests := true, laidLooks := .later }
def ExprReadsCardSaid : Prop := Claim7.holds Tryz.pinned (.plain (OpenSpec.ofChange exprReadsSpec)) exprReadsCard

/-- THE SECOND FORM's CARD OF 'eddylaw3.ExprReads'. -/
def exprReadsUptoCard : Claim7 := { stood := { row := exprReadsUptoRow, standIns := [], harness := (true, "76e9557ce699ed992961913a07339105b487498894e971524c812b277e9138e9"), looks := true }, kinds := [], alts := [], laidByText := true, laidKinds := [.data, .data, .data, .data, .sentinel, .sentinel, .data, .data, .pinned], laidTests := true, laidLooks := .later }
def ExprReadsUptoCardSaid : Prop := Claim7.holds Tryz.pinned (.plain (OpenSpec.upto exprReadsSpec)) exprReadsUptoCard
end Rows
end Go.Proofs.YtmdmomccibpjbaaGreatDoor
