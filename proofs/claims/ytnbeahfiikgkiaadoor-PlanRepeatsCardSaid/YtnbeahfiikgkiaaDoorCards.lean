/-
  DERIVED. GIVEN WITH THE SEED: THE CARDS: each row of YtnbeahfiikgkiaaDoorRows.lean that lists a variable, with what it lists TIED to the program's text (the seventh form; the later family's looks); each row that meets fmt, with fmt's text TOLD by the authors' own Lean function (tested against real Go, not proved from fmt's source: count such statements apart). THE CARD IS WHAT COUNTS. Prove the row's statement (the work); the ties are given (YtnbeahfiikgkiaaDoorTie.lean); close each card by the builder's one call (the guide's Derived/Test/ToyasCard.lean, 'card_holds'). Laid BY PROGRAM, IN A SANDBOX (cutbox-door.mjs). By AI agents, Wed Nov 11 2026. No macro, syntax, notation, axiom, sorry.
-/
import Derived.Test.YtnbeahfiikgkiaaDoorRows
import GoSem.ClaimSeven
namespace Go.Proofs.YtnbeahfiikgkiaaDoor
namespace Rows

/-- THE TIED CARD OF 'eddylaw6.PlanRepeats'. -/
def planRepeatsCard : Claim7 := { stood := { row := planRepeatsRow, standIns := [], harness := (true, "df23c9e619da3a64511ffb1e2a381264516a25d20eacf53949527223989ef92d"), looks := true }, kinds := [], alts := [], laidByText := true, laidKinds := [.data, .data, .pinned], laidTests := true, laidLooks := .later }
def PlanRepeatsCardSaid : Prop := Claim7.holds Tryd.pinned (.plain (OpenSpec.ofChange planRepeatsSpec)) planRepeatsCard

/-- THE SECOND FORM's CARD OF 'eddylaw6.PlanRepeats'. -/
def planRepeatsUptoCard : Claim7 := { stood := { row := planRepeatsUptoRow, standIns := [], harness := (true, "df23c9e619da3a64511ffb1e2a381264516a25d20eacf53949527223989ef92d"), looks := true }, kinds := [], alts := [], laidByText := true, laidKinds := [.data, .data, .pinned], laidTests := true, laidLooks := .later }
def PlanRepeatsUptoCardSaid : Prop := Claim7.holds Tryd.pinned (.plain (OpenSpec.upto planRepeatsSpec)) planRepeatsUptoCard
end Rows
end Go.Proofs.YtnbeahfiikgkiaaDoor
