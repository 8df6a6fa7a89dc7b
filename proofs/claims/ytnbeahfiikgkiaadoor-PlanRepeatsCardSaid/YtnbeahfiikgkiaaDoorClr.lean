/- PlanRepeats (a tied card): whatever the text and the number, the law answers true: a script's text put into a repeat of n is n times its steps, while these are no more than there may be; else it is refused at the last line. Conditions: the row's own: the listed variables of the program and of the library hold what the program's text lays. -/
import Derived.Test.YtnbeahfiikgkiaaDoorPost
import Derived.Test.YtnbeahfiikgkiaaDoorLwr
import Derived.Shelf.Vars
import Derived.ChangeMaps5
namespace Go.Proofs.YtnbeahfiikgkiaaDoor
open Go Go.ChangeShapes Go.WideShapes Go.ChangeAt Go.RowKit
set_option maxRecDepth 100000
theorem own : ownKnob Tryd.prog.godebug = none := by kernel_rfl
theorem rowInt : Tryd.prog.readableRec tInt = true ∧ tInt < Tryd.prog.types.size := ⟨by kernel_rfl, of_decide_eq_true (by kernel_rfl)⟩
theorem rowStr : Tryd.prog.readableRec 9 = true ∧ 9 < Tryd.prog.types.size := ⟨by kernel_rfl, of_decide_eq_true (by kernel_rfl)⟩
/-! ### the program's own variables -/
def stepsD : DataW Unit := .agg (stepsL.map fun x => .agg [.lit (.string x.1), .lit (.int .i64 x.2)])
theorem steps_is : (Rows.laid_eddy_plan_steps : DataW Unit) = stepsD := by kernel_rfl
theorem gS : Tryd.prog.globalNamed "eddy/plan.steps" = some 0 := by kernel_rfl
theorem gST : (Tryd.prog.globals[0]?).map (·.type) = some 65 := by kernel_rfl
theorem cStep : Tryd.prog.cellsOf 64 = 2 := by kernel_rfl
theorem cStr : Tryd.prog.cellsOf 9 = 1 := by kernel_rfl
theorem cInt : Tryd.prog.cellsOf tInt = 1 := by kernel_rfl
theorem step_of {w : World} {fuel : Nat} {cs : List Value} {x : List UInt8 × Int} {p : List MemPlace} (h : DataW.trod (fun _ => ()) Tryd.prog w 0 (fun _ => true) false fuel 64 cs = some (.agg [.lit (.string x.1), .lit (.int .i64 x.2)], p)) : cs = [.string (Tr.bytesL x.1), .int .i64 x.2] := by
  obtain ⟨xs, n, rfl, hx, hl, hxl, hall⟩ := DataW.trod_struct Tryd.underlying64 h
  rw [cStep] at hl
  have hxl : xs.length = 2 := hxl
  match cs, hl, xs, hxl with
  | [v0, v1], _, [y0, y1], _ =>
    have g0 : DataW.trod (fun _ => ()) Tryd.prog w 0 (fun _ => true) false n 9 (List.take (Tryd.prog.cellsOf 9) (List.drop 0 [v0, v1])) = some y0 := hall 0 _ rfl
    have g1 : DataW.trod (fun _ => ()) Tryd.prog w 0 (fun _ => true) false n tInt (List.take (Tryd.prog.cellsOf tInt) (List.drop 1 [v0, v1])) = some y1 := hall 1 _ rfl
    rw [cStr] at g0
    rw [cInt] at g1
    simp only [List.drop_zero, List.drop_succ_cons, List.take_succ_cons, List.take_zero] at g0 g1
    obtain ⟨s, e0, rfl, _⟩ := DataW.trod_string Tryd.underlying9 g0
    obtain ⟨z, e1, rfl, _⟩ := DataW.trod_int Tryd.underlying3 g1
    cases e0; cases e1
    simp at hx
    obtain ⟨⟨hx1, hx2⟩, _⟩ := hx
    rw [hx1, hx2]
theorem globalsN : decide (1 < Tryd.prog.globals.size) = true := by kernel_rfl
theorem glob2 : decide (2 ≤ Tryd.prog.globals.size) = true := by kernel_rfl
theorem last_there : ((begin Tryd.prog (fun _ _ => 0) default).world.heap[1]?).bind Obj.row? |>.isSome := by kernel_rfl
theorem glob_of {w : World} (h : Lib.VarReads Tryd.prog w "eddy/plan.steps" stepsD) (hS : w.ShapedOpen Tryd.prog) : Glob w := by
  obtain ⟨g', t', cs, fuel, p, hg', hty', hvar, hd⟩ := h
  obtain rfl := Option.some.inj (gS.symm.trans hg')
  obtain rfl := Option.some.inj (gST.symm.trans hty')
  have hl : stepsL.length = 10 := rfl
  have el : ∀ i x, stepsL[i]? = some x → (cs.toList.drop (i * 2)).take 2 = [.string (Tr.bytesL x.1), .int .i64 x.2] := fun i x hx => by
    have hi : i < 10 := by rw [← hl]; exact (List.getElem?_eq_some_iff.1 hx).1
    obtain ⟨fuel', d, q, hdi, hre⟩ := Lib.array_elem Tryd.underlying65 hd i hi
    rw [List.getElem?_map, hx] at hdi
    cases hdi
    rw [cStep] at hre
    exact step_of hre
  have cell : ∀ i j x v, stepsL[i]? = some x → j < 2 → [Value.string (Tr.bytesL x.1), .int .i64 x.2][j]? = some v → w.cell? ⟨0, i * 2 + j, none⟩ = some v := fun i j x v hx hj hv => by
    have e0 := congrArg (·[j]?) (el i x hx)
    simp only [List.getElem?_take, List.getElem?_drop, if_pos hj] at e0
    rw [World.var?_cell gS hvar (i * 2 + j), ← Array.getElem?_toList, e0]
    exact hv
  refine ⟨fun i x hx => ?_, fun i x hx => cell i 1 x _ hx (by decide) rfl, ?_, ?_⟩
  · have := cell i 0 x _ hx (by decide) rfl
    rwa [Nat.add_zero] at this
  · exact cell_of_shapedOpen_int hS (of_decide_eq_true globalsN) (t := tInt) (zero := #[.int .i64 0]) (by kernel_rfl) rfl (by kernel_rfl) (by kernel_rfl) Tryd.underlying3
  · obtain ⟨h1, _⟩ := hS
    obtain ⟨⟨z, t⟩, he⟩ := Option.isSome_iff_exists.1 last_there
    obtain ⟨cs, hc, _⟩ := h1 1 z t (by have := of_decide_eq_true glob2; omega) he
    have := (Array.getElem?_eq_some_iff.1 hc).1
    omega
theorem contract (H : Type) (enc : TypeId × Value → H) (W : World) (base : Nat) (args : Array Value) (ds gs : List (DataW H)) (before : List MemPlace)
    (hval : ∀ (j : Nat) t v, Tryd.f3.params[j]? = some t → args[j]? = some v → Value.okWide Tryd.prog W .any base t v)
    (hW : DataW.Whole enc Tryd.prog Tryd.f3.params.toList Rows.planRepeatsSpec.vars false W args.toList ds gs before) (hL : laidMetH Tryd.prog Rows.planRepeatsRow.laid W) (hS : W.ShapedOpen Tryd.prog) :
    Calls Tryd.prog 3 args W fun e W' => ∃ v, e = .returned v ∧ Rows.planRepeatsSpec.post enc Tryd.prog Tryd.f3 false true false false W args v W' := by
  have hW' := hW
  obtain ⟨p, q, hA0, hV, rfl, hfz, hnd⟩ := hW
  have hA : DataW.TrodAll enc Tryd.prog W 0 (fun _ => true) true Tryd.f3.params.toList args.toList ds p := hA0
  rw [Tryd.params3] at hA hval
  obtain ⟨v0, v1, d0, d1, p0, p1, rfl, rfl, rfl, h0, h1⟩ := trodAll_two hA
  obtain ⟨rfl, rfl⟩ := trodVars_none hV
  obtain ⟨s, rfl, rfl, _, -⟩ := Go.ChangeMaps.open_string Tryd.underlying9 (hval 0 9 v0 rfl rfl) h0
  obtain ⟨k, rfl, rfl, rfl, _⟩ := open_int Tryd.underlying3 (hval 1 tInt v1 rfl rfl) h1
  have hL' : laidMet Tryd.prog Rows.planRepeatsRow.laid W := hL
  have hG : Glob W := glob_of (by rw [← steps_is]; exact Lib.laidMet.reads hL' (by simp [Rows.planRepeatsRow])) hS
  refine (law_any s k W hG).mono fun e W1 ⟨he, hc⟩ => ?_
  subst he
  refine ⟨_, rfl, post_law rfl rfl rfl (fun t ht => ?_) hW' hc⟩
  rw [Tryd.params3] at ht
  simp at ht
  rcases ht with rfl | rfl
  · exact rowStr
  · exact rowInt
theorem laid_met (os : Os) : laidMet Tryd.prog Rows.planRepeatsRow.laid (((World.laidAll Tryd.prog os Rows.planRepeatsRow.laid).forCall (fun _ _ => 0) ⟨#[], #[.string (Tr.bytesL []), .int .i64 0], []⟩).memory) :=
  laidMet_laidAll _ (by kernel_rfl) (by kernel_rfl)
theorem reads (os : Os) {H : Type} (enc : TypeId × Value → H) : DataW.whole enc Tryd.prog (((World.laidAll Tryd.prog os Rows.planRepeatsRow.laid).forCall (fun _ _ => 0) ⟨#[], #[.string (Tr.bytesL []), .int .i64 0], []⟩).memory) Tryd.f3.params.toList Rows.planRepeatsSpec.vars false #[Value.string (Tr.bytesL []), .int .i64 0].toList 8 = some ([.lit (.string []), .lit (.int .i64 0)], [], []) := by kernel_rfl
theorem lifted (os : Os) (started : os.Started) (H : Type) (enc : TypeId × Value → H) (F : Stop.Interp) :
    ReturnsInHanded {} Tryd.checked os 3 .any ((OpenSpec.ofChange Rows.planRepeatsSpec).preRow enc Tryd.prog Tryd.f3 Rows.planRepeatsRow.domain false Rows.planRepeatsRow.laid) (((OpenSpec.ofChange Rows.planRepeatsSpec).at F).post enc Tryd.prog Tryd.f3 false true false false) := by
  have hx := reads os enc
  refine returnsInHanded_of_row (C := Tryd.checked) (s := OpenSpec.ofChange Rows.planRepeatsSpec) own started (by kernel_rfl) Tryd.func3
    (witness_row_at (enc := enc) (C := Tryd.checked) false (World.laidAll Tryd.prog os Rows.planRepeatsRow.laid) #[.string (Tr.bytesL []), .int .i64 0] (World.laidAll_os _ _ _) (by kernel_rfl) (by kernel_rfl) (by kernel_rfl)
      (OpenSpec.preRow_of_cond 8 hx (by kernel_rfl) (fun k hk => by cases hk) (by kernel_rfl) (laid_met os))) ?_
  intro W base args ds gs before hval hW _ _ _ hL hS _
  exact contract H enc W base args ds gs before hval hW hL hS
theorem said : Rows.PlanRepeatsSaid :=
  OpenClaim.holds_of_cond 3 Tryd.f3 rfl rfl rfl rfl rfl rfl rfl ⟨rfl, rfl, rfl, rfl, rfl⟩ rfl rfl rfl rfl rfl (by kernel_rfl) Tryd.func3 (by kernel_rfl)
    (of_decide_eq_true (by kernel_rfl)) (by unfold Func.isWrapper; first | (rw [if_pos (by decide +kernel)]; kernel_rfl) | (rw [if_neg (by decide +kernel)]; exact ⟨rfl, rfl⟩))
    (fun os started H enc _ F => by rw [OpenClaim.pre_eq_preRow]; exact lifted os started H enc F)
theorem plain (f : FuncId) (fn : Func) (hf : Tryd.pinned.checked.prog.funcNamed "eddy/eddylaw6.PlanRepeats" = some f) (hfn : Tryd.pinned.checked.prog.funcs[f]? = some fn) :
    true = Tryd.pinned.checked.prog.looks [] ∧ ∀ (j : Nat) t, fn.params[j]? = some t → Tryd.pinned.checked.prog.wantsStandIn t = false := by
  obtain rfl : f = 3 := Option.some.inj ((show Tryd.prog.funcNamed "eddy/eddylaw6.PlanRepeats" = some 3 by kernel_rfl).symm.trans hf) |>.symm
  obtain rfl : fn = Tryd.f3 := (Option.some.inj (Tryd.func3.symm.trans hfn)).symm
  refine ⟨by kernel_rfl, fun j t ht => ?_⟩
  rw [Tryd.params3] at ht
  have : t = 9 ∨ t = tInt := by simpa using Array.mem_of_getElem? ht
  rcases this with rfl | rfl
  · exact (show Tryd.prog.wantsStandIn 9 = false by kernel_rfl)
  · exact (show Tryd.prog.wantsStandIn tInt = false by kernel_rfl)
theorem planRepeats_holds : Rows.PlanRepeatsCardSaid :=
  Claim7.holds_tied_plain_at .later [] _ _ _ _ said (fun _ h => by cases h) (by kernel_rfl) (fun _ h => by cases h) planRepeats_row_tie rfl ⟨rfl, rfl⟩ (by kernel_rfl) rfl plain (by kernel_rfl)
#print axioms planRepeats_holds
end Go.Proofs.YtnbeahfiikgkiaaDoor
