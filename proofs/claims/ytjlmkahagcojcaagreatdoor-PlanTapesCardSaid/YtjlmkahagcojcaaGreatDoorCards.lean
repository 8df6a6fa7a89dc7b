/-
  DERIVED. GIVEN WITH THE SEED: THE CARDS: each row of YtjlmkahagcojcaaGreatDoorRows.lean that lists a variable, with what it lists TIED to the program's text (the seventh form; the later family's looks); each row that meets fmt, with fmt's text TOLD by the authors' own Lean function (tested against real Go, not proved from fmt's source: count such statements apart). THE CARD IS WHAT COUNTS. Prove the row's statement (the work); the ties are given (YtjlmkahagcojcaaGreatDoorTie.lean); close each card by the builder's one call (the guide's Derived/Test/ToyasCard.lean, 'card_holds'). Laid BY PROGRAM, IN A SANDBOX (cutbox-door.mjs). By AI agents, Wed Nov 11 2026. No macro, syntax, notation, axiom, sorry.
-/
import Derived.Test.YtjlmkahagcojcaaGreatDoorRows
import GoSem.ClaimSeven
namespace Go.Proofs.YtjlmkahagcojcaaGreatDoor
namespace Rows

/-- THE TIED CARD OF 'eddylaw6.PlanScripts'. -/
def planScriptsCard : Claim7 := { stood := { row := planScriptsRow, standIns := [], harness := (true, "2284b6a018914cc7d624c91ac170fc47d2eeaf0e767501319a50a373788498d1"), looks := true }, kinds := [], alts := [], laidByText := true, laidKinds := [.data, .data, .data, .data, .data, .pinned], laidTests := true, laidLooks := .later }
def PlanScriptsCardSaid : Prop := Claim7.holds Tryz.pinned (.plain (OpenSpec.ofChange planScriptsSpec)) planScriptsCard

/-- THE TIED CARD OF 'eddylaw6.PlanTapes'. -/
def planTapesCard : Claim7 := { stood := { row := planTapesRow, standIns := [], harness := (true, "2284b6a018914cc7d624c91ac170fc47d2eeaf0e767501319a50a373788498d1"), looks := true }, kinds := [], alts := [], laidByText := true, laidKinds := [.data, .data, .data, .data, .sentinel, .sentinel, .pinned], laidTests := true, laidLooks := .later }
def PlanTapesCardSaid : Prop := Claim7.holds Tryz.pinned (.plain (OpenSpec.ofChange planTapesSpec)) planTapesCard

/-- THE TIED CARD OF 'eddylaw6.PlanKeeps'. -/
def planKeepsCard : Claim7 := { stood := { row := planKeepsRow, standIns := [], harness := (true, "2284b6a018914cc7d624c91ac170fc47d2eeaf0e767501319a50a373788498d1"), looks := true }, kinds := [], alts := [], laidByText := true, laidKinds := [.data, .data, .data, .data, .sentinel, .sentinel, .data, .pinned], laidTests := true, laidLooks := .later }
def PlanKeepsCardSaid : Prop := Claim7.holds Tryz.pinned (.plain (OpenSpec.ofChange planKeepsSpec)) planKeepsCard

/-- THE SECOND FORM's CARD OF 'eddylaw6.PlanScripts'. -/
def planScriptsUptoCard : Claim7 := { stood := { row := planScriptsUptoRow, standIns := [], harness := (true, "2284b6a018914cc7d624c91ac170fc47d2eeaf0e767501319a50a373788498d1"), looks := true }, kinds := [], alts := [], laidByText := true, laidKinds := [.data, .data, .data, .data, .data, .pinned], laidTests := true, laidLooks := .later }
def PlanScriptsUptoCardSaid : Prop := Claim7.holds Tryz.pinned (.plain (OpenSpec.upto planScriptsSpec)) planScriptsUptoCard

/-- THE SECOND FORM's CARD OF 'eddylaw6.PlanTapes'. -/
def planTapesUptoCard : Claim7 := { stood := { row := planTapesUptoRow, standIns := [], harness := (true, "2284b6a018914cc7d624c91ac170fc47d2eeaf0e767501319a50a373788498d1"), looks := true }, kinds := [], alts := [], laidByText := true, laidKinds := [.data, .data, .data, .data, .sentinel, .sentinel, .pinned], laidTests := true, laidLooks := .later }
def PlanTapesUptoCardSaid : Prop := Claim7.holds Tryz.pinned (.plain (OpenSpec.upto planTapesSpec)) planTapesUptoCard

/-- THE SECOND FORM's CARD OF 'eddylaw6.PlanKeeps'. -/
def planKeepsUptoCard : Claim7 := { stood := { row := planKeepsUptoRow, standIns := [], harness := (true, "2284b6a018914cc7d624c91ac170fc47d2eeaf0e767501319a50a373788498d1"), looks := true }, kinds := [], alts := [], laidByText := true, laidKinds := [.data, .data, .data, .data, .sentinel, .sentinel, .data, .pinned], laidTests := true, laidLooks := .later }
def PlanKeepsUptoCardSaid : Prop := Claim7.holds Tryz.pinned (.plain (OpenSpec.upto planKeepsSpec)) planKeepsUptoCard
end Rows
end Go.Proofs.YtjlmkahagcojcaaGreatDoor
