/- ValueLoose (a tied card): whatever the value and the choice, the law answers true and the arguments read as they did: other lawful forms of a value's text are read as the same value. Conditions: the row's own: the listed variables of the library hold what the program's text lays. -/
import Derived.Test.YtjellmblammiaaaDoorOpq
import Derived.Test.YtjellmblammiaaaDoorOpi
namespace Go.Proofs.YtjellmblammiaaaDoor
open Go Go.ChangeShapes Go.WideShapes Go.ChangeAt Go.RowKit
set_option maxRecDepth 100000
namespace Loose
theorem own : ownKnob Tryd.prog.godebug = none := by kernel_rfl
theorem row24 : Tryd.prog.readableRec 24 = true ∧ 24 < Tryd.prog.types.size := ⟨by kernel_rfl, of_decide_eq_true (by kernel_rfl)⟩
theorem row39 : Tryd.prog.readableRec 39 = true ∧ 39 < Tryd.prog.types.size := ⟨by kernel_rfl, of_decide_eq_true (by kernel_rfl)⟩
theorem laid_reads {W : World} (hL : laidMetH Tryd.prog Rows.valueLooseRow.laid W) : Tabs W ∧ Ev W := by
  have h : laidMet Tryd.prog Rows.valueLooseRow.laid W := hL
  refine ⟨tabs_of ?_ ?_ ?_, ev_of (Lib.laidMet.reads h (d := Rows.laid_strconv_ErrRange) (by simp [Rows.valueLooseRow]))⟩
  · rw [← first_is]; exact Lib.laidMet.reads h (by simp [Rows.valueLooseRow])
  · rw [← accept_is]; exact Lib.laidMet.reads h (by simp [Rows.valueLooseRow])
  · rw [← pow_is]; exact Lib.laidMet.reads h (by simp [Rows.valueLooseRow])
theorem contract (H : Type) (enc : TypeId × Value → H) (W : World) (base : Nat) (args : Array Value) (ds gs : List (DataW H)) (before : List MemPlace)
    (hval : ∀ (j : Nat) t v, Tryd.f5.params[j]? = some t → args[j]? = some v → Value.okWide Tryd.prog W .any base t v)
    (hW : DataW.Whole enc Tryd.prog Tryd.f5.params.toList Rows.valueLooseSpec.vars false W args.toList ds gs before)
    (hsz : (DataW.weightsEach Tryd.prog (Tryd.f5.params.toList ++ (OpenSpec.ofChange Rows.valueLooseSpec).bare.plain.varTypes Tryd.prog) (ds ++ gs)).all (· ≤ reachBytes) = true)
    (hL : laidMetH Tryd.prog Rows.valueLooseRow.laid W) (hS : W.ShapedOpen Tryd.prog) :
    Calls Tryd.prog 5 args W fun e W' => ∃ v, e = .returned v ∧ Rows.valueLooseSpec.post enc Tryd.prog Tryd.f5 false true false false W args v W' := by
  have hW' := hW
  obtain ⟨p, q, hA0, hV, rfl, hfz, hnd⟩ := hW
  have hA : DataW.TrodAll enc Tryd.prog W 0 (fun _ => true) true Tryd.f5.params.toList args.toList ds p := hA0
  rw [Tryd.params5] at hA hval
  obtain ⟨v0, v1, d0, d1, p0, p1, rfl, rfl, rfl, h0, h1⟩ := trodAll_two hA
  obtain ⟨rfl, rfl⟩ := trodVars_none hV
  obtain ⟨x, px, nx, cx, rfl, ix, fx⟩ := open_val (hval 0 24 v0 rfl rfl) h0
  obtain ⟨q, qn, qc, rfl, hq⟩ := open_ints (hval 1 39 v1 rfl rfl) h1
  obtain ⟨hT, hE⟩ := laid_reads hL
  refine (loose_any x px nx cx W ix fx q qn qc hq hT hE (heap7 hS)).mono fun e W1 ⟨he, hc⟩ => ?_
  subst he
  refine ⟨_, rfl, post_law rfl rfl rfl (fun t ht => ?_) hW' hc⟩
  rw [Tryd.params5] at ht
  simp at ht
  rcases ht with rfl | rfl
  · exact row24
  · exact row39
abbrev wargs : Array Value := #[valV noneV none 0 0, .slice none 0 0]
theorem laid_met (os : Os) : laidMet Tryd.prog Rows.valueLooseRow.laid (((World.laidAll Tryd.prog os Rows.valueLooseRow.laid).forCall (fun _ _ => 0) ⟨#[], wargs, []⟩).memory) :=
  laidMet_laidAll _ (by kernel_rfl) (by kernel_rfl)
def noneD {H : Type} : DataW H := .agg [.lit (.int .i64 0), .lit (.int .i64 0), .lit (.string []), .nil]
theorem reads (os : Os) {H : Type} (enc : TypeId × Value → H) : DataW.whole enc Tryd.prog (((World.laidAll Tryd.prog os Rows.valueLooseRow.laid).forCall (fun _ _ => 0) ⟨#[], wargs, []⟩).memory) Tryd.f5.params.toList Rows.valueLooseSpec.vars false wargs.toList 8 = some ([noneD, .nil], [], []) := by kernel_rfl
theorem lifted (os : Os) (started : os.Started) (H : Type) (enc : TypeId × Value → H) (F : Stop.Interp) :
    ReturnsInHanded {} Tryd.checked os 5 .any ((OpenSpec.ofChange Rows.valueLooseSpec).preRow enc Tryd.prog Tryd.f5 Rows.valueLooseRow.domain false Rows.valueLooseRow.laid) (((OpenSpec.ofChange Rows.valueLooseSpec).at F).post enc Tryd.prog Tryd.f5 false true false false) := by
  have hx := reads os enc
  refine returnsInHanded_of_row (C := Tryd.checked) (s := OpenSpec.ofChange Rows.valueLooseSpec) own started (by kernel_rfl) Tryd.func5
    (witness_row_atRef (enc := enc) (C := Tryd.checked) false (World.laidAll Tryd.prog os Rows.valueLooseRow.laid) wargs (World.laidAll_os _ _ _) (by kernel_rfl) (by kernel_rfl) (by kernel_rfl)
      (OpenSpec.preRow_of_cond 8 hx (by kernel_rfl) (fun k hk => by cases hk) (by kernel_rfl) (laid_met os))) ?_
  intro W base args ds gs before hval hW _ _ hsz hL hS _
  exact contract H enc W base args ds gs before hval hW hsz hL hS
theorem said : Rows.ValueLooseSaid :=
  OpenClaim.holds_of_cond 5 Tryd.f5 rfl rfl rfl rfl rfl rfl rfl ⟨rfl, rfl, rfl, rfl, rfl⟩ rfl rfl rfl rfl rfl (by kernel_rfl) Tryd.func5 (by kernel_rfl)
    (of_decide_eq_true (by kernel_rfl)) (by unfold Func.isWrapper; first | (rw [if_pos (by decide +kernel)]; kernel_rfl) | (rw [if_neg (by decide +kernel)]; exact ⟨rfl, rfl⟩))
    (fun os started H enc _ F => by rw [OpenClaim.pre_eq_preRow]; exact lifted os started H enc F)
theorem plain (f : FuncId) (fn : Func) (hf : Tryd.pinned.checked.prog.funcNamed "eddy/eddylaw2.ValueLoose" = some f) (hfn : Tryd.pinned.checked.prog.funcs[f]? = some fn) :
    true = Tryd.pinned.checked.prog.looks [] ∧ ∀ (j : Nat) t, fn.params[j]? = some t → Tryd.pinned.checked.prog.wantsStandIn t = false := by
  obtain rfl : f = 5 := Option.some.inj ((show Tryd.prog.funcNamed "eddy/eddylaw2.ValueLoose" = some 5 by kernel_rfl).symm.trans hf) |>.symm
  obtain rfl : fn = Tryd.f5 := (Option.some.inj (Tryd.func5.symm.trans hfn)).symm
  refine ⟨by kernel_rfl, fun j t ht => ?_⟩
  rw [Tryd.params5] at ht
  have := Array.mem_of_getElem? ht
  simp at this
  rcases this with rfl | rfl
  · exact (show Tryd.prog.wantsStandIn 24 = false by kernel_rfl)
  · exact (show Tryd.prog.wantsStandIn 39 = false by kernel_rfl)
end Loose
theorem valueLoose_holds : Rows.ValueLooseCardSaid :=
  Claim7.holds_tied_plain_at .later [] _ _ _ _ Loose.said (fun _ h => by cases h) (by kernel_rfl) (fun _ h => by cases h) valueLoose_row_tie rfl ⟨rfl, rfl⟩ (by kernel_rfl) rfl Loose.plain (by kernel_rfl)
#print axioms valueLoose_holds
end Go.Proofs.YtjellmblammiaaaDoor
