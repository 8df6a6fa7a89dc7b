/- ShapeOrder (a tied card, the first form): whatever the plan, the law answers true, and the plan reads as it did. Conditions: the row's own: the listed variables of the program and of the library read as laid. -/
import Derived.Test.YtkebljkdkaagfaaGreatDoorOpp
import Derived.Test.YtkebljkdkaagfaaGreatDoorShq
namespace Go.Proofs.YtkebljkdkaagfaaGreatDoor
open Go Go.ChangeShapes Go.WideShapes Go.ChangeAt Go.RowKit
set_option maxRecDepth 100000
theorem contract (H : Type) (enc : TypeId × Value → H) (W : World) (base : Nat) (args : Array Value) (ds gs : List (DataW H)) (before : List MemPlace)
    (hval : ∀ (j : Nat) t v, Tryz.f3.params[j]? = some t → args[j]? = some v → Value.okWide Tryz.prog W .any base t v)
    (hW : DataW.Whole enc Tryz.prog Tryz.f3.params.toList Rows.shapeOrderSpec.vars false W args.toList ds gs before) (hL : laidMetH Tryz.prog Rows.shapeOrderRow.laid W) (hS : W.ShapedOpen Tryz.prog) :
    Calls Tryz.prog 3 args W fun e W' => ∃ v, e = .returned v ∧ Rows.shapeOrderSpec.post enc Tryz.prog Tryz.f3 false true false false W args v W' := by
  have hW' := hW
  obtain ⟨p, q, hA0, hV, rfl, hfz, hnd⟩ := hW
  have hA : DataW.TrodAll enc Tryz.prog W 0 (fun _ => true) true Tryz.f3.params.toList args.toList ds p := hA0
  rw [Tryz.params3] at hA hval
  obtain ⟨v0, d0, rfl, rfl, h0⟩ := trodAll_one hA
  obtain ⟨rfl, rfl⟩ := trodVars_none hV
  obtain ⟨pm, tp, tc, ep, ec, rfl, hP⟩ := open_plan (hval 0 25 v0 rfl rfl) h0
  refine (S.order_law W pm tp ep tc ec hP (glS_of hS hL)).mono fun e W1 ⟨he, hc⟩ => ?_
  subst he
  refine ⟨_, rfl, post_law rfl rfl rfl (fun t ht => ?_) hW' hc⟩
  rw [Tryz.params3] at ht
  simp at ht
  subst ht
  exact rowPlan
abbrev wit : Array Value := #[.agg #[.int .i64 0, .slice none 0 0, .slice none 0 0]]
theorem laid_met (os : Os) : laidMet Tryz.prog Rows.shapeOrderRow.laid (((World.laidAll Tryz.prog os Rows.shapeOrderRow.laid).forCall (fun _ _ => 0) ⟨#[], wit, []⟩).memory) :=
  laidMet_laidAll _ (by kernel_rfl) (by kernel_rfl)
theorem reads (os : Os) {H : Type} (enc : TypeId × Value → H) : DataW.whole enc Tryz.prog (((World.laidAll Tryz.prog os Rows.shapeOrderRow.laid).forCall (fun _ _ => 0) ⟨#[], wit, []⟩).memory) Tryz.f3.params.toList Rows.shapeOrderSpec.vars false wit.toList 8 = some ([.agg [.lit (.int .i64 0), .nil, .nil]], [], []) := by kernel_rfl
theorem lifted (os : Os) (started : os.Started) (H : Type) (enc : TypeId × Value → H) (F : Stop.Interp) :
    ReturnsInHanded {} Tryz.checked os 3 .any ((OpenSpec.ofChange Rows.shapeOrderSpec).preRow enc Tryz.prog Tryz.f3 Rows.shapeOrderRow.domain false Rows.shapeOrderRow.laid) (((OpenSpec.ofChange Rows.shapeOrderSpec).at F).post enc Tryz.prog Tryz.f3 false true false false) := by
  have hx := reads os enc
  refine returnsInHanded_of_row (C := Tryz.checked) (s := OpenSpec.ofChange Rows.shapeOrderSpec) own started (by kernel_rfl) Tryz.func3
    (witness_row_atRef (enc := enc) (C := Tryz.checked) false (World.laidAll Tryz.prog os Rows.shapeOrderRow.laid) wit (World.laidAll_os _ _ _) (by kernel_rfl) (by kernel_rfl) (by kernel_rfl)
      (OpenSpec.preRow_of_cond 8 hx (by kernel_rfl) (fun k hk => by cases hk) (by kernel_rfl) (laid_met os))) ?_
  intro W base args ds gs before hval hW _ _ _ hL hS _
  exact contract H enc W base args ds gs before hval hW hL hS
theorem said : Rows.ShapeOrderSaid :=
  OpenClaim.holds_of_cond 3 Tryz.f3 rfl rfl rfl rfl rfl rfl rfl ⟨rfl, rfl, rfl, rfl, rfl⟩ rfl rfl rfl rfl rfl (by kernel_rfl) Tryz.func3 (by kernel_rfl)
    (of_decide_eq_true (by kernel_rfl)) (by unfold Func.isWrapper; first | (rw [if_pos (by decide +kernel)]; kernel_rfl) | (rw [if_neg (by decide +kernel)]; exact ⟨rfl, rfl⟩))
    (fun os started H enc _ F => by rw [OpenClaim.pre_eq_preRow]; exact lifted os started H enc F)
theorem plain (f : FuncId) (fn : Func) (hf : Tryz.pinned.checked.prog.funcNamed "eddy/eddylaw7.ShapeOrder" = some f) (hfn : Tryz.pinned.checked.prog.funcs[f]? = some fn) :
    true = Tryz.pinned.checked.prog.looks [] ∧ ∀ (j : Nat) t, fn.params[j]? = some t → Tryz.pinned.checked.prog.wantsStandIn t = false := by
  obtain rfl : f = 3 := Option.some.inj ((show Tryz.prog.funcNamed "eddy/eddylaw7.ShapeOrder" = some 3 by kernel_rfl).symm.trans hf) |>.symm
  obtain rfl : fn = Tryz.f3 := (Option.some.inj (Tryz.func3.symm.trans hfn)).symm
  refine ⟨by kernel_rfl, fun j t ht => ?_⟩
  rw [Tryz.params3] at ht
  have : t = 25 := by simpa using Array.mem_of_getElem? ht
  subst this
  exact (show Tryz.prog.wantsStandIn 25 = false by kernel_rfl)
theorem shapeOrder_holds : Rows.ShapeOrderCardSaid :=
  Claim7.holds_tied_plain_at .later [] _ _ _ _ said (fun _ h => by cases h) (by kernel_rfl) (fun _ h => by cases h) shapeOrder_row_tie rfl ⟨rfl, rfl⟩ (by kernel_rfl) rfl plain (by kernel_rfl)
#print axioms shapeOrder_holds
end Go.Proofs.YtkebljkdkaagfaaGreatDoor
