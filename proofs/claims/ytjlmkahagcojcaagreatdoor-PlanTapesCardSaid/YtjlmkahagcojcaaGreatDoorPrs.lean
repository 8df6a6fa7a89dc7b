/- Plain law: valid values, their lawful texts; a lawful text between blanks is parsed. -/
import Derived.Test.YtjlmkahagcojcaaGreatDoorRdx
import Derived.Test.YtjlmkahagcojcaaGreatDoorFit
import Derived.Test.YtjlmkahagcojcaaGreatDoorRdt
import Derived.Test.YtjlmkahagcojcaaGreatDoorRdy
import Derived.Test.YtjlmkahagcojcaaGreatDoorRdi
namespace Go.Proofs.YtjlmkahagcojcaaGreatDoor.V
open Go Tr
set_option maxRecDepth 100000
theorem items_lt {x z : VT} (hz : z ∈ x.items) : SizeOf.sizeOf z < SizeOf.sizeOf x := by
  obtain ⟨i, hi⟩ := List.getElem?_of_mem hz
  exact VT.size_lt hi
mutual
/-- Each field that isn't its kind's is empty; the limits. -/
def Good : VT → Prop
  | .mk k i s l => 0 ≤ k ∧ k ≤ 3 ∧ (k ≠ 1 → i = 0) ∧ (k ≠ 2 → s.toList = []) ∧ (k ≠ 3 → l = []) ∧ s.size ≤ 24 ∧ l.length ≤ 6 ∧ GoodL l
def GoodL : List VT → Prop
  | [] => True
  | x :: r => Good x ∧ GoodL r
end
theorem Good_def (x : VT) : Good x = (0 ≤ x.kind ∧ x.kind ≤ 3 ∧ (x.kind ≠ 1 → x.int = 0) ∧ (x.kind ≠ 2 → x.text.toList = []) ∧ (x.kind ≠ 3 → x.items = []) ∧ x.text.size ≤ 24 ∧ x.items.length ≤ 6 ∧ GoodL x.items) := by cases x; simp only [Good]; rfl
theorem GoodL_mem {l : List VT} (h : GoodL l) : ∀ x ∈ l, Good x := by
  induction l with
  | nil => intro x hx; cases hx
  | cons y r ih =>
    simp only [GoodL] at h
    intro x hx
    rcases List.mem_cons.1 hx with rfl | hx
    · exact h.1
    · exact ih h.2 x hx
theorem good_of (k : Nat) : ∀ (x : VT) (n depth : Int), SizeOf.sizeOf x < k → (partV n depth x).1 = 0 → Good x := by
  induction k with
  | zero => intro x n depth h; omega
  | succ k ih =>
    intro x n depth hk
    have key : ∀ (l : List VT) (n : Int), (∀ z ∈ l, SizeOf.sizeOf z < k) → (partL n depth l).1 = 0 → GoodL l := by
      intro l
      induction l with
      | nil => intro n _ _; simp [GoodL]
      | cons z r ihl =>
        intro n hz
        simp only [partL, GoodL]
        by_cases he : (partV n (depth + 1) z).1 = 0
        · rw [if_neg (fun h => h he)]
          intro h
          exact ⟨ih z n (depth + 1) (hz z (.head _)) he, ihl _ (fun u hu => hz u (.tail _ hu)) h⟩
        · rw [if_pos he]; exact fun h => absurd h he
    rw [partV_def, Good_def]
    by_cases h12 : n + 1 > 12
    · rw [if_pos h12]; intro h; simp at h
    rw [if_neg h12]
    by_cases c1 : x.kind < 0 ∨ x.kind > 3
    · rw [if_pos c1]; intro h; simp at h
    rw [if_neg c1]
    by_cases c2 : (x.int ≠ 0 ∧ x.kind ≠ 1) ∨ (x.text.toList ≠ [] ∧ x.kind ≠ 2) ∨ (0 < x.items.length ∧ x.kind ≠ 3)
    · rw [if_pos c2]; intro h; simp at h
    rw [if_neg c2]
    by_cases c3 : x.kind = 3 ∧ depth ≥ 3
    · rw [if_pos c3]; intro h; simp at h
    rw [if_neg c3]
    by_cases c4 : x.text.size > 24
    · rw [if_pos c4]; intro h; simp at h
    rw [if_neg c4]
    by_cases c5 : x.items.length > 6
    · rw [if_pos c5]; intro h; simp at h
    rw [if_neg c5]
    intro h
    refine ⟨by omega, by omega, fun h1 => Decidable.byContradiction fun h2 => c2 (.inl ⟨h2, h1⟩), fun h1 => Decidable.byContradiction fun h2 => c2 (.inr (.inl ⟨h2, h1⟩)), fun h1 => ?_, by omega, by omega, key x.items (n + 1) (fun z hz => by have := items_lt hz; omega) h⟩
    cases hl : x.items with
    | nil => rfl
    | cons a r => exact absurd (.inr (.inr ⟨by rw [hl]; simp, h1⟩)) c2
theorem validV_good (x : VT) : Good (validV x) := by
  unfold validV
  by_cases hc : checkV x = 0
  · rw [if_pos hc]; exact good_of _ x 0 0 (Nat.lt_succ_self _) hc
  · rw [if_neg hc, Good_def]
    exact ⟨by decide, by decide, fun _ => rfl, fun _ => bytesL_nil, fun _ => rfl, by decide, by decide, trivial⟩
theorem noneV_eq : noneV = .mk 0 0 (bytesL []) [] := rfl
theorem validV_check (x : VT) : checkV (validV x) = 0 := by
  unfold validV
  by_cases hc : checkV x = 0
  · rw [if_pos hc]; exact hc
  · rw [if_neg hc]
    unfold checkV
    rw [partV_def, noneV_eq]
    simp [VT.kind, VT.int, VT.text, VT.items, partL]
    decide
end Go.Proofs.YtjlmkahagcojcaaGreatDoor.V
namespace Go.Proofs.YtjlmkahagcojcaaGreatDoor.V
open Go Tr
open Go.Lib (decodeL)
set_option maxRecDepth 100000
theorem pk_ne {l : List UInt8} (h : pk l ≠ 0) : 0 < l.length := by
  cases l with
  | nil => exact absurd rfl h
  | cons c t => simp
/-! numerals -/
theorem dig_is (c : UInt8) : isDig c = true ↔ 48 ≤ c.toNat ∧ c.toNat ≤ 57 := by simp [isDig]
end Go.Proofs.YtjlmkahagcojcaaGreatDoor.V
namespace Go.Proofs.YtjlmkahagcojcaaGreatDoor.V
open Go Tr
set_option maxRecDepth 100000
end Go.Proofs.YtjlmkahagcojcaaGreatDoor.V
