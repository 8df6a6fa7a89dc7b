/- The decoder: what next, int and text read of the bytes. -/
import Derived.Test.YtjlmkahagcojcaaGreatDoorRdx
import Derived.Test.YtjlmkahagcojcaaGreatDoorTrD
namespace Go.Proofs.YtjlmkahagcojcaaGreatDoor.V
open Go Tr
open Go.RowKit (Below)
set_option maxRecDepth 100000
section
variable {P : Program} {R : Ending → World → Prop} {Q : Exit → List (Tmp × Value) → World → Prop} {md : Md} [hmd : md.Runs] {w : World}
/-- A call that panics. -/
theorem cx_i {f : FuncId} {args : Array Value} {kp : List PanicEntry → T} {R' : Ending → World → Prop} (hc : Calls P f args w R') (h : ∀ e w', R' e w' → ∃ ch, e = .panicked ch ∧ wpT P R Q (kp ch) md w') : wpT P R Q (.callx f args kp) md w := by
  rw [wpT_callx]
  refine hc.mono fun e w' he => ?_
  obtain ⟨ch, rfl, hx⟩ := h e w' he
  exact hx
/-- A call that returns or panics. -/
theorem cp_i {f : FuncId} {args : Array Value} {s : Shape} {k : s.Vars → T} {kp : List PanicEntry → T} {R' : Ending → World → Prop} (hc : Calls P f args w R')
    (h : ∀ e w', R' e w' → (∃ x, e = .returned (s.val x) ∧ wpT P R Q (k x) md w') ∨ (∃ ch, e = .panicked ch ∧ wpT P R Q (kp ch) md w')) : wpT P R Q (.callp f args s k kp) md w := by
  rw [wpT_callp]
  refine hc.mono fun e w' he => ?_
  rcases h e w' he with ⟨x, rfl, hx⟩ | ⟨ch, rfl, hx⟩
  · exact ⟨x, rfl, hx⟩
  · exact hx
end
/-- What fail throws. -/
def thrown (e at_ : Int) : List PanicEntry := [⟨.iface 194 (.agg #[.int .i64 e, .int .i64 at_]), false, false⟩]
theorem add_block (a : Addr) (i : Nat) : (a.add i).block = a.block := by unfold Addr.add; split <;> rfl
theorem drop_cases {α : Type} (l : List α) (i : Nat) : (l.drop i = [] ∧ l.length ≤ i) ∨ ∃ u, l[i]? = some u ∧ l.drop i = u :: l.drop (i + 1) := by
  cases h : l[i]? with
  | none =>
    have := List.getElem?_eq_none_iff.1 h
    exact .inl ⟨List.drop_of_length_le this, this⟩
  | some u =>
    refine .inr ⟨u, rfl, ?_⟩
    rw [List.drop_eq_getElem?_toList_append, h]; rfl
end Go.Proofs.YtjlmkahagcojcaaGreatDoor.V
