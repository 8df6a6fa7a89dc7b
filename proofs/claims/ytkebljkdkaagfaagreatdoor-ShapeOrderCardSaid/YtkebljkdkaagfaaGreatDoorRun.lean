/- Check tells a value's first fault; Compare tells one order: what they compute, in plain words. AppendRune, WriteRune: a rune's bytes. -/
import Derived.Test.YtkebljkdkaagfaaGreatDoorBld
import Derived.Lib.RuneBytes
namespace Go.Proofs.YtkebljkdkaagfaaGreatDoor
open Go Tr
set_option maxRecDepth 100000
/-! the tree of function 148 -/
/-! the tree of function 132 -/
/-! the tree of function 117 -/
/-! ### Check -/
mutual
/-- The error of a part and of those in it, and how many parts were counted till then. -/
def partV (n depth : Int) : VT → Int × Int
  | .mk k i s l =>
    if n + 1 > 12 then (22, n + 1)
    else if k < 0 ∨ k > 3 then (20, n + 1)
    else if (i ≠ 0 ∧ k ≠ 1) ∨ (s.toList ≠ [] ∧ k ≠ 2) ∨ (0 < l.length ∧ k ≠ 3) then (20, n + 1)
    else if k = 3 ∧ depth ≥ 3 then (23, n + 1)
    else if s.size > 24 then (21, n + 1)
    else if l.length > 6 then (22, n + 1)
    else partL (n + 1) depth l
def partL (n depth : Int) : List VT → Int × Int
  | [] => (0, n)
  | x :: r => if (partV n (depth + 1) x).1 ≠ 0 then partV n (depth + 1) x else partL (partV n (depth + 1) x).2 depth r
end
theorem partV_def (n depth : Int) (x : VT) : partV n depth x = (if n + 1 > 12 then (22, n + 1)
    else if x.kind < 0 ∨ x.kind > 3 then (20, n + 1)
    else if (x.int ≠ 0 ∧ x.kind ≠ 1) ∨ (x.text.toList ≠ [] ∧ x.kind ≠ 2) ∨ (0 < x.items.length ∧ x.kind ≠ 3) then (20, n + 1)
    else if x.kind = 3 ∧ depth ≥ 3 then (23, n + 1)
    else if x.text.size > 24 then (21, n + 1)
    else if x.items.length > 6 then (22, n + 1)
    else partL (n + 1) depth x.items) := by
  cases x; simp only [partV]; rfl
mutual
theorem partV_bound : ∀ (x : VT) (n depth : Int), 0 ≤ n → n ≤ 12 → 0 ≤ (partV n depth x).2 ∧ (partV n depth x).2 ≤ 13 ∧ ((partV n depth x).1 = 0 → (partV n depth x).2 ≤ 12)
  | .mk k i s l, n, depth, h0, h1 => by
    simp only [partV]
    split
    · exact ⟨by dsimp only; omega, by dsimp only; omega, fun h => by simp at h⟩
    split
    · exact ⟨by dsimp only; omega, by dsimp only; omega, fun h => by simp at h⟩
    split
    · exact ⟨by dsimp only; omega, by dsimp only; omega, fun h => by simp at h⟩
    split
    · exact ⟨by dsimp only; omega, by dsimp only; omega, fun h => by simp at h⟩
    split
    · exact ⟨by dsimp only; omega, by dsimp only; omega, fun h => by simp at h⟩
    split
    · exact ⟨by dsimp only; omega, by dsimp only; omega, fun h => by simp at h⟩
    exact partL_bound l (n + 1) depth (by omega) (by omega)
theorem partL_bound : ∀ (l : List VT) (n depth : Int), 0 ≤ n → n ≤ 12 → 0 ≤ (partL n depth l).2 ∧ (partL n depth l).2 ≤ 13 ∧ ((partL n depth l).1 = 0 → (partL n depth l).2 ≤ 12)
  | [], n, depth, h0, h1 => by simp only [partL]; exact ⟨h0, by omega, fun _ => h1⟩
  | x :: r, n, depth, h0, h1 => by
    simp only [partL]
    have h := partV_bound x n (depth + 1) h0 h1
    split
    · exact h
    · rename_i he
      exact partL_bound r _ depth h.1 (h.2.2 (by simpa using he))
end
theorem bytesL_nil : (bytesL []).toList = [] := by rw [ByteArray.toList_eq]
/-- The value, or none, if it isn't valid. -/
def noneV : VT := .mk 0 0 (bytesL []) []
/-! ### eddysize: are there few parts? -/
end Go.Proofs.YtkebljkdkaagfaaGreatDoor
namespace Go.Proofs.YtkebljkdkaagfaaGreatDoor
open Go Tr
open Go.Lib (byteCells strCells)
set_option maxRecDepth 100000
section
variable {R : Ending → World → Prop} {Q : Exit → List (Tmp × Value) → World → Prop} {w : World}
end
/-! the tree of function 131 -/
/-! the tree of function 174 -/
/-! the tree of function 164 -/
/-! the tree of function 147 -/
end Go.Proofs.YtkebljkdkaagfaaGreatDoor
