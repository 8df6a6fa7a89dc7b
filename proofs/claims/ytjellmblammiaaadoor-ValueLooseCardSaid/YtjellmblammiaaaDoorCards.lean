/-
  DERIVED. GIVEN WITH THE SEED: THE CARDS: each row of YtjellmblammiaaaDoorRows.lean that lists a variable, with what it lists TIED to the program's text (the seventh form; the later family's looks); each row that meets fmt, with fmt's text TOLD by the authors' own Lean function (tested against real Go, not proved from fmt's source: count such statements apart). THE CARD IS WHAT COUNTS. Prove the row's statement (the work); the ties are given (YtjellmblammiaaaDoorTie.lean); close each card by the builder's one call (the guide's Derived/Test/ToyasCard.lean, 'card_holds'). Laid BY PROGRAM, IN A SANDBOX (cutbox-door.mjs). By AI agents, Wed Nov 11 2026. No macro, syntax, notation, axiom, sorry.
-/
import Derived.Test.YtjellmblammiaaaDoorRows
import GoSem.ClaimSeven
namespace Go.Proofs.YtjellmblammiaaaDoor
namespace Rows

/-- THE TIED CARD OF 'eddylaw2.ValueOrder'. -/
def valueOrderCard : Claim7 := { stood := { row := valueOrderRow, standIns := [], harness := (true, "374fc54e181f962f5964e359e362701415114a7960baf4b8adf78f4172d0fd96"), looks := true }, kinds := [], alts := [], laidByText := true, laidKinds := [.data, .data, .data, .data, .pinned], laidTests := true, laidLooks := .later }
def ValueOrderCardSaid : Prop := Claim7.holds Tryd.pinned (.plain (OpenSpec.ofChange valueOrderSpec)) valueOrderCard

/-- THE TIED CARD OF 'eddylaw2.ValueCanon'. -/
def valueCanonCard : Claim7 := { stood := { row := valueCanonRow, standIns := [], harness := (true, "374fc54e181f962f5964e359e362701415114a7960baf4b8adf78f4172d0fd96"), looks := true }, kinds := [], alts := [], laidByText := true, laidKinds := [.data, .data, .data, .data, .sentinel, .sentinel, .pinned], laidTests := true, laidLooks := .later }
def ValueCanonCardSaid : Prop := Claim7.holds Tryd.pinned (.plain (OpenSpec.ofChange valueCanonSpec)) valueCanonCard

/-- THE TIED CARD OF 'eddylaw2.ValueLoose'. -/
def valueLooseCard : Claim7 := { stood := { row := valueLooseRow, standIns := [], harness := (true, "374fc54e181f962f5964e359e362701415114a7960baf4b8adf78f4172d0fd96"), looks := true }, kinds := [], alts := [], laidByText := true, laidKinds := [.data, .data, .data, .data, .sentinel, .sentinel, .pinned], laidTests := true, laidLooks := .later }
def ValueLooseCardSaid : Prop := Claim7.holds Tryd.pinned (.plain (OpenSpec.ofChange valueLooseSpec)) valueLooseCard

/-- THE TIED CARD OF 'eddylaw2.ValueWhole'. -/
def valueWholeCard : Claim7 := { stood := { row := valueWholeRow, standIns := [], harness := (true, "374fc54e181f962f5964e359e362701415114a7960baf4b8adf78f4172d0fd96"), looks := true }, kinds := [], alts := [], laidByText := true, laidKinds := [.data, .data, .data, .data, .sentinel, .sentinel, .pinned], laidTests := true, laidLooks := .later }
def ValueWholeCardSaid : Prop := Claim7.holds Tryd.pinned (.plain (OpenSpec.ofChange valueWholeSpec)) valueWholeCard

/-- THE SECOND FORM's CARD OF 'eddylaw2.ValueOrder'. -/
def valueOrderUptoCard : Claim7 := { stood := { row := valueOrderUptoRow, standIns := [], harness := (true, "374fc54e181f962f5964e359e362701415114a7960baf4b8adf78f4172d0fd96"), looks := true }, kinds := [], alts := [], laidByText := true, laidKinds := [.data, .data, .data, .data, .pinned], laidTests := true, laidLooks := .later }
def ValueOrderUptoCardSaid : Prop := Claim7.holds Tryd.pinned (.plain (OpenSpec.upto valueOrderSpec)) valueOrderUptoCard

/-- THE SECOND FORM's CARD OF 'eddylaw2.ValueCanon'. -/
def valueCanonUptoCard : Claim7 := { stood := { row := valueCanonUptoRow, standIns := [], harness := (true, "374fc54e181f962f5964e359e362701415114a7960baf4b8adf78f4172d0fd96"), looks := true }, kinds := [], alts := [], laidByText := true, laidKinds := [.data, .data, .data, .data, .sentinel, .sentinel, .pinned], laidTests := true, laidLooks := .later }
def ValueCanonUptoCardSaid : Prop := Claim7.holds Tryd.pinned (.plain (OpenSpec.upto valueCanonSpec)) valueCanonUptoCard

/-- THE SECOND FORM's CARD OF 'eddylaw2.ValueLoose'. -/
def valueLooseUptoCard : Claim7 := { stood := { row := valueLooseUptoRow, standIns := [], harness := (true, "374fc54e181f962f5964e359e362701415114a7960baf4b8adf78f4172d0fd96"), looks := true }, kinds := [], alts := [], laidByText := true, laidKinds := [.data, .data, .data, .data, .sentinel, .sentinel, .pinned], laidTests := true, laidLooks := .later }
def ValueLooseUptoCardSaid : Prop := Claim7.holds Tryd.pinned (.plain (OpenSpec.upto valueLooseSpec)) valueLooseUptoCard

/-- THE SECOND FORM's CARD OF 'eddylaw2.ValueWhole'. -/
def valueWholeUptoCard : Claim7 := { stood := { row := valueWholeUptoRow, standIns := [], harness := (true, "374fc54e181f962f5964e359e362701415114a7960baf4b8adf78f4172d0fd96"), looks := true }, kinds := [], alts := [], laidByText := true, laidKinds := [.data, .data, .data, .data, .sentinel, .sentinel, .pinned], laidTests := true, laidLooks := .later }
def ValueWholeUptoCardSaid : Prop := Claim7.holds Tryd.pinned (.plain (OpenSpec.upto valueWholeSpec)) valueWholeUptoCard
end Rows
end Go.Proofs.YtjellmblammiaaaDoor
