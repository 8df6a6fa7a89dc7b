/-
  DERIVED. GIVEN WITH THE SEED: THE CARDS: each row of YtkebljkdkaagfaaGreatDoorRows.lean that lists a variable, with what it lists TIED to the program's text (the seventh form; the later family's looks); each row that meets fmt, with fmt's text TOLD by the authors' own Lean function (tested against real Go, not proved from fmt's source: count such statements apart). THE CARD IS WHAT COUNTS. Prove the row's statement (the work); the ties are given (YtkebljkdkaagfaaGreatDoorTie.lean); close each card by the builder's one call (the guide's Derived/Test/ToyasCard.lean, 'card_holds'). Laid BY PROGRAM, IN A SANDBOX (cutbox-door.mjs). By AI agents, Wed Nov 11 2026. No macro, syntax, notation, axiom, sorry.
-/
import Derived.Test.YtkebljkdkaagfaaGreatDoorRows
import GoSem.ClaimSeven
namespace Go.Proofs.YtkebljkdkaagfaaGreatDoor
namespace Rows

/-- THE TIED CARD OF 'eddylaw7.ShapeOrder'. -/
def shapeOrderCard : Claim7 := { stood := { row := shapeOrderRow, standIns := [], harness := (true, "a97136ee96f009141b2062dd45ead8d9cf0556959be03c5acd06bf79f5bdcb9b"), looks := true }, kinds := [], alts := [], laidByText := true, laidKinds := [.data, .data, .data, .data, .sentinel, .sentinel, .data, .data, .data, .pinned], laidTests := true, laidLooks := .later }
def ShapeOrderCardSaid : Prop := Claim7.holds Tryz.pinned (.plain (OpenSpec.ofChange shapeOrderSpec)) shapeOrderCard

/-- THE TIED CARD OF 'eddylaw7.ShapeTurned'. -/
def shapeTurnedCard : Claim7 := { stood := { row := shapeTurnedRow, standIns := [], harness := (true, "a97136ee96f009141b2062dd45ead8d9cf0556959be03c5acd06bf79f5bdcb9b"), looks := true }, kinds := [], alts := [], laidByText := true, laidKinds := [.data, .data, .data, .data, .sentinel, .sentinel, .data, .data, .data, .pinned], laidTests := true, laidLooks := .later }
def ShapeTurnedCardSaid : Prop := Claim7.holds Tryz.pinned (.plain (OpenSpec.ofChange shapeTurnedSpec)) shapeTurnedCard

/-- THE TIED CARD OF 'eddylaw7.ShapeLinks'. -/
def shapeLinksCard : Claim7 := { stood := { row := shapeLinksRow, standIns := [], harness := (true, "a97136ee96f009141b2062dd45ead8d9cf0556959be03c5acd06bf79f5bdcb9b"), looks := true }, kinds := [], alts := [], laidByText := true, laidKinds := [.data, .data, .data, .data, .sentinel, .sentinel, .data, .data, .data, .pinned], laidTests := true, laidLooks := .later }
def ShapeLinksCardSaid : Prop := Claim7.holds Tryz.pinned (.plain (OpenSpec.ofChange shapeLinksSpec)) shapeLinksCard

/-- THE TIED CARD OF 'eddylaw7.ShapeFed'. -/
def shapeFedCard : Claim7 := { stood := { row := shapeFedRow, standIns := [], harness := (true, "a97136ee96f009141b2062dd45ead8d9cf0556959be03c5acd06bf79f5bdcb9b"), looks := true }, kinds := [], alts := [], laidByText := true, laidKinds := [.data, .data, .data, .data, .sentinel, .sentinel, .data, .data, .data, .pinned], laidTests := true, laidLooks := .later }
def ShapeFedCardSaid : Prop := Claim7.holds Tryz.pinned (.plain (OpenSpec.ofChange shapeFedSpec)) shapeFedCard

/-- THE TIED CARD OF 'eddylaw7.ShapeNear'. -/
def shapeNearCard : Claim7 := { stood := { row := shapeNearRow, standIns := [], harness := (true, "a97136ee96f009141b2062dd45ead8d9cf0556959be03c5acd06bf79f5bdcb9b"), looks := true }, kinds := [], alts := [], laidByText := true, laidKinds := [.data, .data, .data, .data, .sentinel, .sentinel, .data, .data, .data, .pinned], laidTests := true, laidLooks := .later }
def ShapeNearCardSaid : Prop := Claim7.holds Tryz.pinned (.plain (OpenSpec.ofChange shapeNearSpec)) shapeNearCard

/-- THE SECOND FORM's CARD OF 'eddylaw7.ShapeOrder'. -/
def shapeOrderUptoCard : Claim7 := { stood := { row := shapeOrderUptoRow, standIns := [], harness := (true, "a97136ee96f009141b2062dd45ead8d9cf0556959be03c5acd06bf79f5bdcb9b"), looks := true }, kinds := [], alts := [], laidByText := true, laidKinds := [.data, .data, .data, .data, .sentinel, .sentinel, .data, .data, .data, .pinned], laidTests := true, laidLooks := .later }
def ShapeOrderUptoCardSaid : Prop := Claim7.holds Tryz.pinned (.plain (OpenSpec.upto shapeOrderSpec)) shapeOrderUptoCard

/-- THE SECOND FORM's CARD OF 'eddylaw7.ShapeTurned'. -/
def shapeTurnedUptoCard : Claim7 := { stood := { row := shapeTurnedUptoRow, standIns := [], harness := (true, "a97136ee96f009141b2062dd45ead8d9cf0556959be03c5acd06bf79f5bdcb9b"), looks := true }, kinds := [], alts := [], laidByText := true, laidKinds := [.data, .data, .data, .data, .sentinel, .sentinel, .data, .data, .data, .pinned], laidTests := true, laidLooks := .later }
def ShapeTurnedUptoCardSaid : Prop := Claim7.holds Tryz.pinned (.plain (OpenSpec.upto shapeTurnedSpec)) shapeTurnedUptoCard

/-- THE SECOND FORM's CARD OF 'eddylaw7.ShapeLinks'. -/
def shapeLinksUptoCard : Claim7 := { stood := { row := shapeLinksUptoRow, standIns := [], harness := (true, "a97136ee96f009141b2062dd45ead8d9cf0556959be03c5acd06bf79f5bdcb9b"), looks := true }, kinds := [], alts := [], laidByText := true, laidKinds := [.data, .data, .data, .data, .sentinel, .sentinel, .data, .data, .data, .pinned], laidTests := true, laidLooks := .later }
def ShapeLinksUptoCardSaid : Prop := Claim7.holds Tryz.pinned (.plain (OpenSpec.upto shapeLinksSpec)) shapeLinksUptoCard

/-- THE SECOND FORM's CARD OF 'eddylaw7.ShapeFed'. -/
def shapeFedUptoCard : Claim7 := { stood := { row := shapeFedUptoRow, standIns := [], harness := (true, "a97136ee96f009141b2062dd45ead8d9cf0556959be03c5acd06bf79f5bdcb9b"), looks := true }, kinds := [], alts := [], laidByText := true, laidKinds := [.data, .data, .data, .data, .sentinel, .sentinel, .data, .data, .data, .pinned], laidTests := true, laidLooks := .later }
def ShapeFedUptoCardSaid : Prop := Claim7.holds Tryz.pinned (.plain (OpenSpec.upto shapeFedSpec)) shapeFedUptoCard

/-- THE SECOND FORM's CARD OF 'eddylaw7.ShapeNear'. -/
def shapeNearUptoCard : Claim7 := { stood := { row := shapeNearUptoRow, standIns := [], harness := (true, "a97136ee96f009141b2062dd45ead8d9cf0556959be03c5acd06bf79f5bdcb9b"), looks := true }, kinds := [], alts := [], laidByText := true, laidKinds := [.data, .data, .data, .data, .sentinel, .sentinel, .data, .data, .data, .pinned], laidTests := true, laidLooks := .later }
def ShapeNearUptoCardSaid : Prop := Claim7.holds Tryz.pinned (.plain (OpenSpec.upto shapeNearSpec)) shapeNearUptoCard
end Rows
end Go.Proofs.YtkebljkdkaagfaaGreatDoor
