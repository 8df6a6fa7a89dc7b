/- quote: a text's bytes in quotes. quote: the walk. What fits into memory; a value, or none. -/
import Derived.Test.YtkebljkdkaagfaaGreatDoorRun
import Derived.Test.YtkebljkdkaagfaaGreatDoorShelf
import Derived.Lib.ConvBytes
import Derived.Lib.RuneCount
import Derived.Lib.RuneCountTail
import Derived.Lib.QuoteLoop
import Derived.Laws.RangeAny
namespace Go.Proofs.YtkebljkdkaagfaaGreatDoor
open Go Tr
open Go.Lib (byteCells strCells)
open Go.RowKit (Below)
set_option maxRecDepth 100000
/-! ### Iterators over texts -/
section
variable {P : Program} {R : Ending → World → Prop} {Q : Exit → List (Tmp × Value) → World → Prop} {w : World}
end
/-! ### What is written -/
/-! the tree of function 130 -/
/-! the tree of function 146 -/
theorem Tabs_ch {w w' : World} {base : Nat} (h : Lib.Utf8Tabs 3 4 w) (hc : Ch (base ≤ ·) w w') (hb : 11 ≤ base) : Lib.Utf8Tabs 3 4 w' := by
  refine ⟨fun c hc' => hc.cellv (h.1 c hc') (fun (h : base ≤ 3) => by omega), fun i hi => ?_⟩
  obtain ⟨h1, h2⟩ := h.2 i hi
  exact ⟨hc.cellv h1 (fun (h : base ≤ 4) => by omega), hc.cellv h2 (fun (h : base ≤ 4) => by omega)⟩
theorem decode_in (s : ByteArray) (pos : Nat) (h : pos < s.size) : Lib.decodeGo (s.extract pos s.size) = Utf8.decode s pos ∧ pos + (Utf8.decode s pos).2 ≤ s.size := by
  have hsz : (s.extract pos s.size).size = s.size - pos := by simp [ByteArray.size_extract]
  have ht := Lib.tail_decode s pos 0
  rw [Nat.add_zero] at ht
  have hw := Lib.width_le (s.extract pos s.size) (by omega)
  rw [ht, hsz] at hw
  refine ⟨?_, by omega⟩
  unfold Lib.decodeGo
  rw [if_neg (by omega), ht]
end Go.Proofs.YtkebljkdkaagfaaGreatDoor
namespace Go.Proofs.YtkebljkdkaagfaaGreatDoor
open Go Tr
open Go.Lib (byteCells strCells)
open Go.RowKit (Below)
set_option maxRecDepth 100000
theorem ch_bytes (w : World) (s : ByteArray) : Ch No w (Lib.bytesWorld w 5 s) := ⟨rfl, rfl, rfl, by rw [Lib.bytesWorld_size]; omega, fun k hk _ => Lib.bytesWorld_at_old w 5 s k hk⟩
end Go.Proofs.YtkebljkdkaagfaaGreatDoor
namespace Go.Proofs.YtkebljkdkaagfaaGreatDoor
open Go Tr
set_option maxRecDepth 100000
def Rng (i : Int) : Prop := -9223372036854775808 ≤ i ∧ i ≤ 9223372036854775807
mutual
def Fit : VT → Prop
  | .mk k i s l => Rng k ∧ Rng i ∧ s.size ≤ 9223372036854775807 ∧ FitL l
def FitL : List VT → Prop
  | [] => True
  | x :: r => Fit x ∧ FitL r
end
theorem Fit_def (x : VT) : Fit x = (Rng x.kind ∧ Rng x.int ∧ x.text.size ≤ 9223372036854775807 ∧ FitL x.items) := by cases x; simp only [Fit]; rfl
theorem noneV_fit : Fit noneV := by
  rw [Fit_def]
  exact ⟨by unfold Rng; decide, by unfold Rng; decide, by decide, trivial⟩
end Go.Proofs.YtkebljkdkaagfaaGreatDoor
