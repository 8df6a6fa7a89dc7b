/- ValueWhole (a tied card): whatever the value and the bytes, the law answers true and the arguments read as they did: what Print writes Parse and Lead read back, what Encode writes Decode reads back, whatever bytes follow; what is not valid is none. Conditions: the row's own: the listed variables of the library hold what the program's text lays. -/
import Derived.Test.YtjellmblammiaaaDoorOpq
import Derived.Test.YtjellmblammiaaaDoorOpr
namespace Go.Proofs.YtjellmblammiaaaDoor
open Go Go.ChangeShapes Go.WideShapes Go.ChangeAt Go.RowKit
set_option maxRecDepth 100000
namespace Whole
theorem own : ownKnob Tryd.prog.godebug = none := by kernel_rfl
theorem row24 : Tryd.prog.readableRec 24 = true ∧ 24 < Tryd.prog.types.size := ⟨by kernel_rfl, of_decide_eq_true (by kernel_rfl)⟩
theorem row29 : Tryd.prog.readableRec 29 = true ∧ 29 < Tryd.prog.types.size := ⟨by kernel_rfl, of_decide_eq_true (by kernel_rfl)⟩
theorem laid_reads {W : World} (hL : laidMetH Tryd.prog Rows.valueWholeRow.laid W) : Tabs W ∧ Ev W := by
  have h : laidMet Tryd.prog Rows.valueWholeRow.laid W := hL
  refine ⟨tabs_of ?_ ?_ ?_, ev_of (Lib.laidMet.reads h (d := Rows.laid_strconv_ErrRange) (by simp [Rows.valueWholeRow]))⟩
  · rw [← first_is]; exact Lib.laidMet.reads h (by simp [Rows.valueWholeRow])
  · rw [← accept_is]; exact Lib.laidMet.reads h (by simp [Rows.valueWholeRow])
  · rw [← pow_is]; exact Lib.laidMet.reads h (by simp [Rows.valueWholeRow])
theorem contract (H : Type) (enc : TypeId × Value → H) (W : World) (base : Nat) (args : Array Value) (ds gs : List (DataW H)) (before : List MemPlace)
    (hval : ∀ (j : Nat) t v, Tryd.f6.params[j]? = some t → args[j]? = some v → Value.okWide Tryd.prog W .any base t v)
    (hW : DataW.Whole enc Tryd.prog Tryd.f6.params.toList Rows.valueWholeSpec.vars false W args.toList ds gs before)
    (hsz : (DataW.weightsEach Tryd.prog (Tryd.f6.params.toList ++ (OpenSpec.ofChange Rows.valueWholeSpec).bare.plain.varTypes Tryd.prog) (ds ++ gs)).all (· ≤ reachBytes) = true)
    (hL : laidMetH Tryd.prog Rows.valueWholeRow.laid W) (hS : W.ShapedOpen Tryd.prog) :
    Calls Tryd.prog 6 args W fun e W' => ∃ v, e = .returned v ∧ Rows.valueWholeSpec.post enc Tryd.prog Tryd.f6 false true false false W args v W' := by
  have hW' := hW
  obtain ⟨p, q, hA0, hV, rfl, hfz, hnd⟩ := hW
  have hA : DataW.TrodAll enc Tryd.prog W 0 (fun _ => true) true Tryd.f6.params.toList args.toList ds p := hA0
  rw [Tryd.params6] at hA hval
  obtain ⟨v0, v1, d0, d1, p0, p1, rfl, rfl, rfl, h0, h1⟩ := trodAll_two hA
  obtain ⟨rfl, rfl⟩ := trodVars_none hV
  obtain ⟨x, px, nx, cx, rfl, ix, fx⟩ := open_val (hval 0 24 v0 rfl rfl) h0
  obtain ⟨b, bn, bc, bs, rfl, hb, hbp, hlen⟩ := open_bytes_len (hval 1 29 v1 rfl rfl) h1
  have hbn : bn ≤ 140737488351232 := by
    rcases hlen with rfl | ⟨el, sp, rfl, rfl⟩
    · omega
    · have := Go.sized_slice (j := 1) (t := 29) (e := 5) hsz (by rw [Tryd.params6]; rfl) rfl Tryd.underlying29
      rw [bytes5] at this
      have : reachBytes = 140737488351232 := by decide
      omega
  obtain ⟨hT, hE⟩ := laid_reads hL
  refine (whole_any x px nx cx W ix fx b bn bc bs hb hbp hbn hT hE (heap7 hS)).mono fun e W1 ⟨he, hc⟩ => ?_
  subst he
  refine ⟨_, rfl, post_law rfl rfl rfl (fun t ht => ?_) hW' hc⟩
  rw [Tryd.params6] at ht
  simp at ht
  rcases ht with rfl | rfl
  · exact row24
  · exact row29
abbrev wargs : Array Value := #[valV noneV none 0 0, .slice none 0 0]
theorem laid_met (os : Os) : laidMet Tryd.prog Rows.valueWholeRow.laid (((World.laidAll Tryd.prog os Rows.valueWholeRow.laid).forCall (fun _ _ => 0) ⟨#[], wargs, []⟩).memory) :=
  laidMet_laidAll _ (by kernel_rfl) (by kernel_rfl)
def noneD {H : Type} : DataW H := .agg [.lit (.int .i64 0), .lit (.int .i64 0), .lit (.string []), .nil]
theorem reads (os : Os) {H : Type} (enc : TypeId × Value → H) : DataW.whole enc Tryd.prog (((World.laidAll Tryd.prog os Rows.valueWholeRow.laid).forCall (fun _ _ => 0) ⟨#[], wargs, []⟩).memory) Tryd.f6.params.toList Rows.valueWholeSpec.vars false wargs.toList 8 = some ([noneD, .nil], [], []) := by kernel_rfl
theorem lifted (os : Os) (started : os.Started) (H : Type) (enc : TypeId × Value → H) (F : Stop.Interp) :
    ReturnsInHanded {} Tryd.checked os 6 .any ((OpenSpec.ofChange Rows.valueWholeSpec).preRow enc Tryd.prog Tryd.f6 Rows.valueWholeRow.domain false Rows.valueWholeRow.laid) (((OpenSpec.ofChange Rows.valueWholeSpec).at F).post enc Tryd.prog Tryd.f6 false true false false) := by
  have hx := reads os enc
  refine returnsInHanded_of_row (C := Tryd.checked) (s := OpenSpec.ofChange Rows.valueWholeSpec) own started (by kernel_rfl) Tryd.func6
    (witness_row_atRef (enc := enc) (C := Tryd.checked) false (World.laidAll Tryd.prog os Rows.valueWholeRow.laid) wargs (World.laidAll_os _ _ _) (by kernel_rfl) (by kernel_rfl) (by kernel_rfl)
      (OpenSpec.preRow_of_cond 8 hx (by kernel_rfl) (fun k hk => by cases hk) (by kernel_rfl) (laid_met os))) ?_
  intro W base args ds gs before hval hW _ _ hsz hL hS _
  exact contract H enc W base args ds gs before hval hW hsz hL hS
theorem said : Rows.ValueWholeSaid :=
  OpenClaim.holds_of_cond 6 Tryd.f6 rfl rfl rfl rfl rfl rfl rfl ⟨rfl, rfl, rfl, rfl, rfl⟩ rfl rfl rfl rfl rfl (by kernel_rfl) Tryd.func6 (by kernel_rfl)
    (of_decide_eq_true (by kernel_rfl)) (by unfold Func.isWrapper; first | (rw [if_pos (by decide +kernel)]; kernel_rfl) | (rw [if_neg (by decide +kernel)]; exact ⟨rfl, rfl⟩))
    (fun os started H enc _ F => by rw [OpenClaim.pre_eq_preRow]; exact lifted os started H enc F)
theorem plain (f : FuncId) (fn : Func) (hf : Tryd.pinned.checked.prog.funcNamed "eddy/eddylaw2.ValueWhole" = some f) (hfn : Tryd.pinned.checked.prog.funcs[f]? = some fn) :
    true = Tryd.pinned.checked.prog.looks [] ∧ ∀ (j : Nat) t, fn.params[j]? = some t → Tryd.pinned.checked.prog.wantsStandIn t = false := by
  obtain rfl : f = 6 := Option.some.inj ((show Tryd.prog.funcNamed "eddy/eddylaw2.ValueWhole" = some 6 by kernel_rfl).symm.trans hf) |>.symm
  obtain rfl : fn = Tryd.f6 := (Option.some.inj (Tryd.func6.symm.trans hfn)).symm
  refine ⟨by kernel_rfl, fun j t ht => ?_⟩
  rw [Tryd.params6] at ht
  have := Array.mem_of_getElem? ht
  simp at this
  rcases this with rfl | rfl
  · exact (show Tryd.prog.wantsStandIn 24 = false by kernel_rfl)
  · exact (show Tryd.prog.wantsStandIn 29 = false by kernel_rfl)
end Whole
theorem valueWhole_holds : Rows.ValueWholeCardSaid :=
  Claim7.holds_tied_plain_at .later [] _ _ _ _ Whole.said (fun _ h => by cases h) (by kernel_rfl) (fun _ h => by cases h) valueWhole_row_tie rfl ⟨rfl, rfl⟩ (by kernel_rfl) rfl Whole.plain (by kernel_rfl)
#print axioms valueWhole_holds
end Go.Proofs.YtjellmblammiaaaDoor
