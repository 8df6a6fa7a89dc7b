/- What fits into memory; a value, or none. -/
import Derived.Test.YtjlmkahagcojcaaGreatDoorQut
namespace Go.Proofs.YtjlmkahagcojcaaGreatDoor
open Go Tr
set_option maxRecDepth 100000
def Rng (i : Int) : Prop := -9223372036854775808 ≤ i ∧ i ≤ 9223372036854775807
mutual
def Fit : VT → Prop
  | .mk k i s l => Rng k ∧ Rng i ∧ s.size ≤ 9223372036854775807 ∧ FitL l
def FitL : List VT → Prop
  | [] => True
  | x :: r => Fit x ∧ FitL r
end
theorem Fit_def (x : VT) : Fit x = (Rng x.kind ∧ Rng x.int ∧ x.text.size ≤ 9223372036854775807 ∧ FitL x.items) := by cases x; simp only [Fit]; rfl
theorem FitL_get {l : List VT} {i : Nat} {x : VT} (h : FitL l) (hx : l[i]? = some x) : Fit x := by
  induction l generalizing i with
  | nil => simp at hx
  | cons y r ih =>
    simp only [FitL] at h
    cases i with
    | zero => simp at hx; subst hx; exact h.1
    | succ i => exact ih h.2 (by simpa using hx)
theorem valid_is {x : VT} {p : Option Addr} {m c : Nat} {w : World} (hx : IsV w x p m c) : ∃ px mx cx, (∀ w', Ch No w w' → IsV w' (validV x) px mx cx) ∧ (if checkV x = 0 then valV x p m c else valV noneV none 0 0) = valV (validV x) px mx cx := by
  unfold validV
  by_cases h : checkV x = 0
  · rw [if_pos h, if_pos h]; exact ⟨p, m, c, fun w'' hw => hx.no hw, rfl⟩
  · rw [if_neg h, if_neg h]; exact ⟨none, 0, 0, fun w'' hw => noneV_is _, rfl⟩
theorem noneV_fit : Fit noneV := by
  rw [Fit_def]
  exact ⟨by unfold Rng; decide, by unfold Rng; decide, by decide, trivial⟩
theorem validV_fit {x : VT} (h : Fit x) : Fit (validV x) := by
  unfold validV
  split
  · exact h
  · exact noneV_fit
end Go.Proofs.YtjlmkahagcojcaaGreatDoor
