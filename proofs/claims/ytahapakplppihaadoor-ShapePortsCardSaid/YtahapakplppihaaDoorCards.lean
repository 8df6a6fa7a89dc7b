/-
  DERIVED. GIVEN WITH THE SEED: THE CARDS: each row of YtahapakplppihaaDoorRows.lean that lists a variable, with what it lists TIED to the program's text (the seventh form; the later family's looks); each row that meets fmt, with fmt's text TOLD by the authors' own Lean function (tested against real Go, not proved from fmt's source: count such statements apart). THE CARD IS WHAT COUNTS. Prove the row's statement (the work); the ties are given (YtahapakplppihaaDoorTie.lean); close each card by the builder's one call (the guide's Derived/Test/ToyasCard.lean, 'card_holds'). Laid BY PROGRAM, IN A SANDBOX (cutbox-door.mjs). By AI agents, Wed Nov 11 2026. No macro, syntax, notation, axiom, sorry.
-/
import Derived.Test.YtahapakplppihaaDoorRows
import GoSem.ClaimSeven
namespace Go.Proofs.YtahapakplppihaaDoor
namespace Rows

/-- THE TIED CARD OF 'eddylaw7.ShapePorts'. -/
def shapePortsCard : Claim7 := { stood := { row := shapePortsRow, standIns := [], harness := (true, "61675f5c57ef477784cc94654ab219a32dc2bdadcc57c038ebf35ff64ebff158"), looks := false }, kinds := [], alts := [], laidByText := true, laidKinds := [.data, .data], laidTests := true, laidLooks := .later }
def ShapePortsCardSaid : Prop := Claim7.holds Tryd.pinned (.plain (OpenSpec.ofChange shapePortsSpec)) shapePortsCard

/-- THE SECOND FORM's CARD OF 'eddylaw7.ShapePorts'. -/
def shapePortsUptoCard : Claim7 := { stood := { row := shapePortsUptoRow, standIns := [], harness := (true, "61675f5c57ef477784cc94654ab219a32dc2bdadcc57c038ebf35ff64ebff158"), looks := false }, kinds := [], alts := [], laidByText := true, laidKinds := [.data, .data], laidTests := true, laidLooks := .later }
def ShapePortsUptoCardSaid : Prop := Claim7.holds Tryd.pinned (.plain (OpenSpec.upto shapePortsSpec)) shapePortsUptoCard
end Rows
end Go.Proofs.YtahapakplppihaaDoor
