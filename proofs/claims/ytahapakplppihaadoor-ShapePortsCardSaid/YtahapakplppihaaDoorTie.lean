/-
  DERIVED. GIVEN WITH THE SEED: THE PROGRAM's TIES (one call each: nine closed facts by the kernel) AND EACH ROW's TIE, after the 31st guide's Derived/Test/Toyas{Tie, Card}.lean. No idea stands in it: it is a product of the set-up. Laid BY PROGRAM, IN A SANDBOX (cutbox-door.mjs). By AI agents, Wed Nov 11 2026. No macro, syntax, notation, axiom, sorry.
-/
import Derived.Test.YtahapakplppihaaDoorRows
import Derived.LaidByTextLater
import Derived.SevenTiedAt
import Derived.LaidSub
import Derived.LaidOnce
namespace Go.Proofs.YtahapakplppihaaDoor
open Go
set_option maxRecDepth 100000
theorem seatTie1 : Tryd.prog.laidByTextLater [("eddy/eddyref7.kinds", Rows.laid_eddy_eddyref7_kinds), ("eddy/shape.needs", Rows.laid_eddy_shape_needs)] [.data, .data] true :=
  Program.laidByTextLater_by_one 46 8 99 (by kernel_rfl) (by kernel_rfl) (by kernel_rfl) (by kernel_rfl) (by kernel_rfl) (by kernel_rfl) (fun _ _ => by kernel_rfl)
theorem noOwnUnsafe : Tryd.pinned.checked.prog.headLifts.contains "ownunsafe" = false := by kernel_rfl
theorem tie : Tryd.prog.laidByTextLater [("eddy/eddyref7.kinds", Rows.laid_eddy_eddyref7_kinds), ("eddy/shape.needs", Rows.laid_eddy_shape_needs)] [.data, .data] true :=
  Program.laidByTextLater.sub seatTie1 ["eddy/eddyref7.kinds", "eddy/shape.needs"] (by kernel_rfl) (by kernel_rfl)
theorem shapePorts_row_tie : Rows.shapePortsRow.laidByTextAt .later Tryd.pinned [.data, .data] true :=
  OpenClaim.laidByTextAt_later rfl rfl tie noOwnUnsafe
theorem shapePortsUpto_row_tie : Rows.shapePortsUptoRow.laidByTextAt .later Tryd.pinned [.data, .data] true :=
  OpenClaim.laidByTextAt_later rfl rfl tie noOwnUnsafe
end Go.Proofs.YtahapakplppihaaDoor
