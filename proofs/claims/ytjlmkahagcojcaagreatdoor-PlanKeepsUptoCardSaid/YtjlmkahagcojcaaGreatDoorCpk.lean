/- PlanKeeps (a tied card, the second form): whatever the tape, the steps and the text of bulk at most 1048576, the law answers true: tapes and scripts that can be written are read back, what was read and can be written too. Conditions: the row's own: the listed variables of the program and of the library read as laid. -/
import Derived.Test.YtjlmkahagcojcaaGreatDoorOpo
import Derived.Test.YtjlmkahagcojcaaGreatDoorTpl
namespace Go.Proofs.YtjlmkahagcojcaaGreatDoor
open Go Go.ChangeShapes Go.WideShapes Go.ChangeAt Go.RowKit
set_option maxRecDepth 100000
theorem contract (H : Type) (enc : TypeId × Value → H) (W : World) (base : Nat) (args : Array Value) (ds gs : List (DataW H)) (before : List MemPlace)
    (hval : ∀ (j : Nat) t v, Tryz.f5.params[j]? = some t → args[j]? = some v → Value.okWide Tryz.prog W .any base t v)
    (hW : DataW.Whole enc Tryz.prog Tryz.f5.params.toList Rows.planKeepsSpec.vars false W args.toList ds gs before) (hk : Rows.uptoSmall H (ds ++ gs) = true) (hL : laidMetH Tryz.prog Rows.planKeepsUptoRow.laid W) (hS : W.ShapedOpen Tryz.prog) :
    Calls Tryz.prog 5 args W fun e W' => ∃ v, e = .returned v ∧ Rows.planKeepsSpec.post enc Tryz.prog Tryz.f5 false true false false W args v W' := by
  have hW' := hW
  obtain ⟨p, q, hA0, hV, rfl, hfz, hnd⟩ := hW
  have hA : DataW.TrodAll enc Tryz.prog W 0 (fun _ => true) true Tryz.f5.params.toList args.toList ds p := hA0
  rw [Tryz.params5] at hA hval
  obtain ⟨v0, v1, v2, d0, d1, d2, p0, p1, p2, rfl, rfl, rfl, h0, h1, h2⟩ := trodAll_three hA
  obtain ⟨rfl, rfl⟩ := trodVars_none hV
  obtain ⟨ta, tn, tc, rfl⟩ := okWide_slice Tryz.underlying40 (hval 0 40 v0 rfl rfl)
  obtain ⟨a, n, c, rfl⟩ := okWide_slice Tryz.underlying22 (hval 1 tOps v1 rfl rfl)
  obtain ⟨s, rfl, rfl, _, -⟩ := Go.ChangeMaps.open_string Tryz.underlying9 (hval 2 9 v2 rfl rfl) h2
  have hb : Rows.uptoBulk d0 ≤ 1048576 ∧ Rows.uptoBulk d1 ≤ 1048576 := by
    have h := of_decide_eq_true hk
    simp only [List.append_nil, Rows.uptoBulkAll] at h
    omega
  obtain ⟨fuel0, h0'⟩ := h0
  obtain ⟨tp', tn', tc', lt, e0, hTt, htn, htk⟩ := recs_of h0'
  have e0 : [Value.slice ta tn tc] = [Value.slice tp' tn' tc'] := e0
  simp only [List.cons.injEq, Value.slice.injEq, and_true] at e0
  obtain ⟨rfl, rfl, rfl⟩ := e0
  obtain ⟨fuel, h1'⟩ := h1
  obtain ⟨p', n', c', l, e1, hAt, hn, hkp⟩ := ops_of h1'
  have e1 : [Value.slice a n c] = [Value.slice p' n' c'] := e1
  simp only [List.cons.injEq, Value.slice.injEq, and_true] at e1
  obtain ⟨rfl, rfl, rfl⟩ := e1
  have hL' : laidMet Tryz.prog Rows.planKeepsUptoRow.laid W := hL
  have hG : Glob W := glob_of (by rw [← steps_is]; exact Lib.laidMet.reads hL' (by simp [Rows.planKeepsUptoRow])) (by rw [← pow_is]; exact Lib.laidMet.reads hL' (by simp [Rows.planKeepsUptoRow])) hS
  have hT : Tabs W := tabs_of (by rw [← first_is]; exact Lib.laidMet.reads hL' (by simp [Rows.planKeepsUptoRow])) (by rw [← accept_is]; exact Lib.laidMet.reads hL' (by simp [Rows.planKeepsUptoRow])) hG
  have hE : V.Ev W := ev_of (Lib.laidMet.reads hL' (d := Rows.laid_strconv_ErrRange) (by simp [Rows.planKeepsUptoRow]))
  dsimp only at hn hkp htn htk
  refine (keeps_any ta tn tc a n c s lt l W hG hT hE hTt (fun r hr => ⟨(htk r hr).1, by have := (htk r hr).2; omega⟩) (by have := hTt.1; omega) hAt (by have := hAt.1; omega) (fun o ho => by have := hkp o ho; omega)).mono fun e W1 ⟨he, hc⟩ => ?_
  subst he
  refine ⟨_, rfl, post_law rfl rfl rfl (fun t ht => ?_) hW' hc⟩
  rw [Tryz.params5] at ht
  simp at ht
  rcases ht with rfl | rfl | rfl
  · exact rowRecs
  · exact rowOps
  · exact rowStr
abbrev wit : Array Value := #[.slice none 0 0, .slice none 0 0, .string (Tr.bytesL [])]
theorem laid_met (os : Os) : laidMet Tryz.prog Rows.planKeepsUptoRow.laid (((World.laidAll Tryz.prog os Rows.planKeepsUptoRow.laid).forCall (fun _ _ => 0) ⟨#[], wit, []⟩).memory) :=
  laidMet_laidAll _ (by kernel_rfl) (by kernel_rfl)
theorem reads (os : Os) {H : Type} (enc : TypeId × Value → H) : DataW.whole enc Tryz.prog (((World.laidAll Tryz.prog os Rows.planKeepsUptoRow.laid).forCall (fun _ _ => 0) ⟨#[], wit, []⟩).memory) Tryz.f5.params.toList Rows.planKeepsSpec.vars false wit.toList 8 = some ([.nil, .nil, .lit (.string [])], [], []) := by kernel_rfl
theorem lifted (os : Os) (started : os.Started) (H : Type) (enc : TypeId × Value → H) (F : Stop.Interp) :
    ReturnsInHanded {} Tryz.checked os 5 .any ((Rows.OpenSpec.upto Rows.planKeepsSpec).preRow enc Tryz.prog Tryz.f5 Rows.planKeepsUptoRow.domain false Rows.planKeepsUptoRow.laid) (((Rows.OpenSpec.upto Rows.planKeepsSpec).at F).post enc Tryz.prog Tryz.f5 false true false false) := by
  have hx := reads os enc
  refine returnsInHanded_of_row (C := Tryz.checked) (s := Rows.OpenSpec.upto Rows.planKeepsSpec) own started (by kernel_rfl) Tryz.func5
    (witness_row_atRef (enc := enc) (C := Tryz.checked) false (World.laidAll Tryz.prog os Rows.planKeepsUptoRow.laid) wit (World.laidAll_os _ _ _) (by kernel_rfl) (by kernel_rfl) (by kernel_rfl)
      (OpenSpec.preRow_of_cond 8 hx (by kernel_rfl) (fun k hk => by cases hk; kernel_rfl) (by kernel_rfl) (laid_met os))) ?_
  intro W base args ds gs before hval hW _ hcond _ hL hS _
  exact contract H enc W base args ds gs before hval hW (hcond _ rfl) hL hS
theorem said : Rows.PlanKeepsUptoSaid :=
  OpenClaim.holds_of_cond 5 Tryz.f5 rfl rfl rfl rfl rfl rfl rfl ⟨rfl, rfl, rfl, rfl, rfl⟩ rfl rfl rfl rfl rfl (by kernel_rfl) Tryz.func5 (by kernel_rfl)
    (of_decide_eq_true (by kernel_rfl)) (by unfold Func.isWrapper; first | (rw [if_pos (by decide +kernel)]; kernel_rfl) | (rw [if_neg (by decide +kernel)]; exact ⟨rfl, rfl⟩))
    (fun os started H enc _ F => by rw [OpenClaim.pre_eq_preRow]; exact lifted os started H enc F)
theorem plain (f : FuncId) (fn : Func) (hf : Tryz.pinned.checked.prog.funcNamed "eddy/eddylaw6.PlanKeeps" = some f) (hfn : Tryz.pinned.checked.prog.funcs[f]? = some fn) :
    true = Tryz.pinned.checked.prog.looks [] ∧ ∀ (j : Nat) t, fn.params[j]? = some t → Tryz.pinned.checked.prog.wantsStandIn t = false := by
  obtain rfl : f = 5 := Option.some.inj ((show Tryz.prog.funcNamed "eddy/eddylaw6.PlanKeeps" = some 5 by kernel_rfl).symm.trans hf) |>.symm
  obtain rfl : fn = Tryz.f5 := (Option.some.inj (Tryz.func5.symm.trans hfn)).symm
  refine ⟨by kernel_rfl, fun j t ht => ?_⟩
  rw [Tryz.params5] at ht
  have : t = 40 ∨ t = tOps ∨ t = 9 := by simpa using Array.mem_of_getElem? ht
  rcases this with rfl | rfl | rfl
  · exact (show Tryz.prog.wantsStandIn 40 = false by kernel_rfl)
  · exact (show Tryz.prog.wantsStandIn tOps = false by kernel_rfl)
  · exact (show Tryz.prog.wantsStandIn 9 = false by kernel_rfl)
theorem planKeepsUpto_holds : Rows.PlanKeepsUptoCardSaid :=
  Claim7.holds_tied_plain_at .later [] _ _ _ _ said (fun _ h => by cases h) (by kernel_rfl) (fun _ h => by cases h) planKeepsUpto_row_tie rfl ⟨rfl, rfl⟩ (by kernel_rfl) rfl plain (by kernel_rfl)
#print axioms planKeepsUpto_holds
end Go.Proofs.YtjlmkahagcojcaaGreatDoor
