/- Functions with one deferred closure: the tree's leaves tell the closure, its arguments and the slots. The decoder: what next, int and text read of the bytes. -/
import Derived.Test.YtkebljkdkaagfaaGreatDoorTrS
import Derived.Defers
import Derived.Recover
import Derived.Test.YtkebljkdkaagfaaGreatDoorRdx
namespace Go.Proofs.YtkebljkdkaagfaaGreatDoor.Tr
open Go
def leafD (e : Exit) (a : Act) : T :=
  match a.defers with
  | [d] => match d.target with
    | .fn fv cap => .fin e [(0, .func fv #[] cap), (1, .agg d.args), (2, .agg a.tmps)]
    | _ => .stuck
  | _ => .stuck
def defT (P : Program) (fn : Func) (args : Array Value) (s : Script) : T :=
  match fn.body with
  | some c => codeT P c { tmps := args ++ Array.replicate (fn.ntmps - args.size) undef, defers := [] } s (fun _ e a => leafD e a)
  | none => .stuck
def leftD (P : Program) (fn : Func) (R : Ending → World → Prop) (e : Exit) (L : List (Tmp × Value)) (w : World) : Prop :=
  ∃ fv cap dargs tmps, L = [(0, .func fv #[] cap), (1, .agg dargs), (2, .agg tmps)] ∧ (match e with
    | .normal => Leaves P fn tmps R [{ target := .fn fv cap, args := dargs }] .returning w
    | .ret => Leaves P fn tmps R [{ target := .fn fv cap, args := dargs }] .returning w
    | .panic ch => Leaves P fn tmps R [{ target := .fn fv cap, args := dargs }] (.panicking ch) w
    | _ => False)
theorem calls_of_defT {P : Program} (hm : P.follows .mixedOrders = true) {f : FuncId} {fn : Func} (hf : P.funcs[f]? = some fn) {args : Array Value} {s : Script} {w : World} {R : Ending → World → Prop}
    (h : wpT P (fun _ _ => False) (leftD P fn R) (defT P fn args s) .pl w) : Calls P f args w R := by
  unfold defT at h
  split at h
  · rename_i c hc
    refine calls_of_wp_defers hf hc (codeT_sound hm c _ _ _ (fun ch a w _ h => h.elim) ?_ h)
    intro s e a' w' _ h
    unfold leafD at h
    split at h
    · rename_i d hd
      split at h
      · rename_i fv cap ht
        obtain ⟨fv', cap', dargs', tmps', hL, h⟩ := h
        simp only [List.cons.injEq, Prod.mk.injEq, Value.func.injEq, Value.agg.injEq, true_and, and_true] at hL
        obtain ⟨⟨rfl, rfl⟩, rfl, rfl⟩ := hL
        have hd' : a'.defers = [{ target := .fn fv cap, args := d.args }] := by rw [hd, ← ht]
        cases e with
        | normal => show Leaves _ _ _ _ a'.defers _ _; rw [hd']; exact h
        | ret => show Leaves _ _ _ _ a'.defers _ _; rw [hd']; exact h
        | panic ch => show Leaves _ _ _ _ a'.defers _ _; rw [hd']; exact h
        | exit i => exact h.elim
        | goto l => exact h.elim
        | outgrown => exact h.elim
      · exact h.elim
    · exact h.elim
  · exact h.elim
end Go.Proofs.YtkebljkdkaagfaaGreatDoor.Tr
namespace Go.Proofs.YtkebljkdkaagfaaGreatDoor.V
open Go Tr
open Go.RowKit (Below)
set_option maxRecDepth 100000
section
variable {P : Program} {R : Ending → World → Prop} {Q : Exit → List (Tmp × Value) → World → Prop} {md : Md} [hmd : md.Runs] {w : World}
/-- A call that panics. -/
theorem cx_i {f : FuncId} {args : Array Value} {kp : List PanicEntry → T} {R' : Ending → World → Prop} (hc : Calls P f args w R') (h : ∀ e w', R' e w' → ∃ ch, e = .panicked ch ∧ wpT P R Q (kp ch) md w') : wpT P R Q (.callx f args kp) md w := by
  rw [wpT_callx]
  refine hc.mono fun e w' he => ?_
  obtain ⟨ch, rfl, hx⟩ := h e w' he
  exact hx
/-- A call that returns or panics. -/
theorem cp_i {f : FuncId} {args : Array Value} {s : Shape} {k : s.Vars → T} {kp : List PanicEntry → T} {R' : Ending → World → Prop} (hc : Calls P f args w R')
    (h : ∀ e w', R' e w' → (∃ x, e = .returned (s.val x) ∧ wpT P R Q (k x) md w') ∨ (∃ ch, e = .panicked ch ∧ wpT P R Q (kp ch) md w')) : wpT P R Q (.callp f args s k kp) md w := by
  rw [wpT_callp]
  refine hc.mono fun e w' he => ?_
  rcases h e w' he with ⟨x, rfl, hx⟩ | ⟨ch, rfl, hx⟩
  · exact ⟨x, rfl, hx⟩
  · exact hx
end
/-- What fail throws. -/
def thrown (e at_ : Int) : List PanicEntry := [⟨.iface 141 (.agg #[.int .i64 e, .int .i64 at_]), false, false⟩]
theorem add_block (a : Addr) (i : Nat) : (a.add i).block = a.block := by unfold Addr.add; split <;> rfl
theorem drop_cases {α : Type} (l : List α) (i : Nat) : (l.drop i = [] ∧ l.length ≤ i) ∨ ∃ u, l[i]? = some u ∧ l.drop i = u :: l.drop (i + 1) := by
  cases h : l[i]? with
  | none =>
    have := List.getElem?_eq_none_iff.1 h
    exact .inl ⟨List.drop_of_length_le this, this⟩
  | some u =>
    refine .inr ⟨u, rfl, ?_⟩
    rw [List.drop_eq_getElem?_toList_append, h]; rfl
end Go.Proofs.YtkebljkdkaagfaaGreatDoor.V
