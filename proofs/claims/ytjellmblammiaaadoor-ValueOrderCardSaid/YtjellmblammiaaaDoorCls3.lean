/- ValueOrder (a tied card): whatever the three values, the law answers true and the values read as they did: one total order of all values, 0 just where Print and Encode are the same, no encoding begins another. Conditions: the row's own: the listed tables of the library hold what the program's text lays. -/
import Derived.Test.YtjellmblammiaaaDoorOpn
import Derived.Test.YtjellmblammiaaaDoorLaw3
namespace Go.Proofs.YtjellmblammiaaaDoor
open Go Go.ChangeShapes Go.WideShapes Go.ChangeAt Go.RowKit
set_option maxRecDepth 100000
theorem own : ownKnob Tryd.prog.godebug = none := by kernel_rfl
theorem row24 : Tryd.prog.readableRec 24 = true ∧ 24 < Tryd.prog.types.size := ⟨by kernel_rfl, of_decide_eq_true (by kernel_rfl)⟩
theorem laid_reads {W : World} (hL : laidMetH Tryd.prog Rows.valueOrderRow.laid W) : Tabs W := by
  have h : laidMet Tryd.prog Rows.valueOrderRow.laid W := hL
  refine tabs_of ?_ ?_ ?_
  · rw [← first_is]; exact Lib.laidMet.reads h (by simp [Rows.valueOrderRow])
  · rw [← accept_is]; exact Lib.laidMet.reads h (by simp [Rows.valueOrderRow])
  · rw [← pow_is]; exact Lib.laidMet.reads h (by simp [Rows.valueOrderRow])
theorem contract3 (H : Type) (enc : TypeId × Value → H) (W : World) (base : Nat) (args : Array Value) (ds gs : List (DataW H)) (before : List MemPlace)
    (hval : ∀ (j : Nat) t v, Tryd.f3.params[j]? = some t → args[j]? = some v → Value.okWide Tryd.prog W .any base t v)
    (hW : DataW.Whole enc Tryd.prog Tryd.f3.params.toList Rows.valueOrderSpec.vars false W args.toList ds gs before) (hL : laidMetH Tryd.prog Rows.valueOrderRow.laid W) (hS : W.ShapedOpen Tryd.prog) :
    Calls Tryd.prog 3 args W fun e W' => ∃ v, e = .returned v ∧ Rows.valueOrderSpec.post enc Tryd.prog Tryd.f3 false true false false W args v W' := by
  have hW' := hW
  obtain ⟨p, q, hA0, hV, rfl, hfz, hnd⟩ := hW
  have hA : DataW.TrodAll enc Tryd.prog W 0 (fun _ => true) true Tryd.f3.params.toList args.toList ds p := hA0
  rw [Tryd.params3] at hA hval
  obtain ⟨v0, v1, v2, d0, d1, d2, p0, p1, p2, rfl, rfl, rfl, h0, h1, h2⟩ := trodAll_three hA
  obtain ⟨rfl, rfl⟩ := trodVars_none hV
  obtain ⟨x, px, nx, cx, rfl, ix, fx⟩ := open_val (hval 0 24 v0 rfl rfl) h0
  obtain ⟨y, py, ny, cy, rfl, iy, fy⟩ := open_val (hval 1 24 v1 rfl rfl) h1
  obtain ⟨z, pz, nz, cz, rfl, iz, fz⟩ := open_val (hval 2 24 v2 rfl rfl) h2
  refine (order3_any (fun x y _ _ => pair_true x y) x y z px nx cx py ny cy pz nz cz W ix iy iz fx fy fz (laid_reads hL) (heap7 hS)).mono fun e W1 ⟨he, hc⟩ => ?_
  subst he
  exact ⟨_, rfl, post_law rfl rfl rfl (fun t ht => by rw [Tryd.params3] at ht; simp at ht; subst ht; exact row24) hW' hc⟩
theorem laid_met3 (os : Os) : laidMet Tryd.prog Rows.valueOrderRow.laid (((World.laidAll Tryd.prog os Rows.valueOrderRow.laid).forCall (fun _ _ => 0) ⟨#[], #[valV noneV none 0 0, valV noneV none 0 0, valV noneV none 0 0], []⟩).memory) :=
  laidMet_laidAll _ (by kernel_rfl) (by kernel_rfl)
def noneD {H : Type} : DataW H := .agg [.lit (.int .i64 0), .lit (.int .i64 0), .lit (.string []), .nil]
theorem reads3 (os : Os) {H : Type} (enc : TypeId × Value → H) : DataW.whole enc Tryd.prog (((World.laidAll Tryd.prog os Rows.valueOrderRow.laid).forCall (fun _ _ => 0) ⟨#[], #[valV noneV none 0 0, valV noneV none 0 0, valV noneV none 0 0], []⟩).memory) Tryd.f3.params.toList Rows.valueOrderSpec.vars false #[valV noneV none 0 0, valV noneV none 0 0, valV noneV none 0 0].toList 8 = some ([noneD, noneD, noneD], [], []) := by kernel_rfl
theorem lifted3 (os : Os) (started : os.Started) (H : Type) (enc : TypeId × Value → H) (F : Stop.Interp) :
    ReturnsInHanded {} Tryd.checked os 3 .any ((OpenSpec.ofChange Rows.valueOrderSpec).preRow enc Tryd.prog Tryd.f3 Rows.valueOrderRow.domain false Rows.valueOrderRow.laid) (((OpenSpec.ofChange Rows.valueOrderSpec).at F).post enc Tryd.prog Tryd.f3 false true false false) := by
  have hx := reads3 os enc
  refine returnsInHanded_of_row (C := Tryd.checked) (s := OpenSpec.ofChange Rows.valueOrderSpec) own started (by kernel_rfl) Tryd.func3
    (witness_row_at (enc := enc) (C := Tryd.checked) false (World.laidAll Tryd.prog os Rows.valueOrderRow.laid) #[valV noneV none 0 0, valV noneV none 0 0, valV noneV none 0 0] (World.laidAll_os _ _ _) (by kernel_rfl) (by kernel_rfl) (by kernel_rfl)
      (OpenSpec.preRow_of_cond 8 hx (by kernel_rfl) (fun k hk => by cases hk) (by kernel_rfl) (laid_met3 os))) ?_
  intro W base args ds gs before hval hW _ _ _ hL hS _
  exact contract3 H enc W base args ds gs before hval hW hL hS
theorem said3 : Rows.ValueOrderSaid :=
  OpenClaim.holds_of_cond 3 Tryd.f3 rfl rfl rfl rfl rfl rfl rfl ⟨rfl, rfl, rfl, rfl, rfl⟩ rfl rfl rfl rfl rfl (by kernel_rfl) Tryd.func3 (by kernel_rfl)
    (of_decide_eq_true (by kernel_rfl)) (by unfold Func.isWrapper; first | (rw [if_pos (by decide +kernel)]; kernel_rfl) | (rw [if_neg (by decide +kernel)]; exact ⟨rfl, rfl⟩))
    (fun os started H enc _ F => by rw [OpenClaim.pre_eq_preRow]; exact lifted3 os started H enc F)
theorem plain3 (f : FuncId) (fn : Func) (hf : Tryd.pinned.checked.prog.funcNamed "eddy/eddylaw2.ValueOrder" = some f) (hfn : Tryd.pinned.checked.prog.funcs[f]? = some fn) :
    true = Tryd.pinned.checked.prog.looks [] ∧ ∀ (j : Nat) t, fn.params[j]? = some t → Tryd.pinned.checked.prog.wantsStandIn t = false := by
  obtain rfl : f = 3 := Option.some.inj ((show Tryd.prog.funcNamed "eddy/eddylaw2.ValueOrder" = some 3 by kernel_rfl).symm.trans hf) |>.symm
  obtain rfl : fn = Tryd.f3 := (Option.some.inj (Tryd.func3.symm.trans hfn)).symm
  refine ⟨by kernel_rfl, fun j t ht => ?_⟩
  rw [Tryd.params3] at ht
  obtain rfl : t = 24 := by simpa using Array.mem_of_getElem? ht
  exact (show Tryd.prog.wantsStandIn 24 = false by kernel_rfl)
theorem valueOrder_holds : Rows.ValueOrderCardSaid :=
  Claim7.holds_tied_plain_at .later [] _ _ _ _ said3 (fun _ h => by cases h) (by kernel_rfl) (fun _ h => by cases h) valueOrder_row_tie rfl ⟨rfl, rfl⟩ (by kernel_rfl) rfl plain3 (by kernel_rfl)
#print axioms valueOrder_holds
end Go.Proofs.YtjellmblammiaaaDoor
