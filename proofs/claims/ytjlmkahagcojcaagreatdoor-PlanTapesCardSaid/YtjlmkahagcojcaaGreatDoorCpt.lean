/- PlanTapes (a tied card, the first form): whatever the text and the records, the law answers true: plan.ParseTape and plan.PrintTape answer what the document's own answer tells, in records, faults and places, and leave the records as they were. Conditions: the row's own: the listed variables of the program and of the library read as laid. -/
import Derived.Test.YtjlmkahagcojcaaGreatDoorOpo
import Derived.Test.YtjlmkahagcojcaaGreatDoorXq
namespace Go.Proofs.YtjlmkahagcojcaaGreatDoor
open Go Go.ChangeShapes Go.WideShapes Go.ChangeAt Go.RowKit
set_option maxRecDepth 100000
section
variable {H : Type} {enc : TypeId × Value → H} {w : World} {base : Nat} {sp : Nat → Bool} {held : Bool}
theorem ints_cap {fuel : Nat} {p : Option Addr} {n c : Nat} {x : DataW H × List MemPlace} (h : DataW.trod enc Tryz.prog w base sp held fuel tInts [.slice p n c] = some x) : n ≤ 9223372036854775807 := by
  have hm : maxLen = 9223372036854775807 := by decide
  rcases DataW.trod_slice Tryz.underlying36 h with ⟨e3, -⟩ | ⟨a, len, cap, el, rs, m, -, e3, -, -, hlc, hcap, -⟩
  · simp only [List.cons.injEq, Value.slice.injEq, and_true] at e3
    omega
  · simp only [List.cons.injEq, Value.slice.injEq, and_true] at e3
    omega
theorem rec_in {fuel : Nat} {cs : List Value} {x : DataW H × List MemPlace} (h : DataW.trod enc Tryz.prog w base sp held fuel 54 cs = some x) : ∃ (r : V.RecM) (vq : Option Addr) (vn vc : Nat) (kp : Option Addr) (kn kc : Nat),
    cs = [.string r.key, .int .i64 r.val.kind, .int .i64 r.val.int, .string r.val.text, .slice vq vn vc, .slice kp kn kc] ∧ IsV w r.val vq vn vc ∧ AtI w kp kn r.loops ∧ Fit r.val ∧ r.loops.length ≤ 9223372036854775807 := by
  obtain ⟨xs, n, rfl, rfl, hl, hxl, hall⟩ := DataW.trod_struct Tryz.underlying54 h
  rw [cellsRec] at hl
  have hxl : xs.length = 3 := hxl
  match cs, hl, xs, hxl with
  | [v0, v1, v2, v3, v4, v5], _, [y0, y1, y2], _ =>
    have g0 : DataW.trod enc Tryz.prog w base sp held n 9 (List.take (Tryz.prog.cellsOf 9) (List.drop 0 [v0, v1, v2, v3, v4, v5])) = some y0 := hall 0 _ rfl
    have g1 : DataW.trod enc Tryz.prog w base sp held n 52 (List.take (Tryz.prog.cellsOf 52) (List.drop 1 [v0, v1, v2, v3, v4, v5])) = some y1 := hall 1 _ rfl
    have g2 : DataW.trod enc Tryz.prog w base sp held n tInts (List.take (Tryz.prog.cellsOf tInts) (List.drop 5 [v0, v1, v2, v3, v4, v5])) = some y2 := hall 2 _ rfl
    rw [cStr] at g0
    rw [cellsVal] at g1
    rw [cellsInts] at g2
    simp only [List.drop_zero, List.drop_succ_cons, List.take_succ_cons, List.take_zero] at g0 g1 g2
    obtain ⟨s, e0, -, -⟩ := DataW.trod_string Tryz.underlying9 g0
    obtain ⟨v, vq, vn, vc, e1, hI, hF⟩ := open_cells _ n _ _ (Nat.lt_succ_self _) g1
    obtain ⟨kp, kn, kc, l, e2, hA, hB⟩ := ints_of g2
    cases e0; cases e1; cases e2
    exact ⟨⟨s, v, l⟩, vq, vn, vc, kp, kn, kc, rfl, hI, hA, hF, by have := ints_cap g2; have := hA.1; dsimp only; omega⟩
theorem recs_in {fuel : Nat} {cs : List Value} {x : DataW H × List MemPlace} (h : DataW.trod enc Tryz.prog w base sp held fuel 40 cs = some x) : ∃ p n c l, cs = [.slice p n c] ∧ V.AtT w p n l ∧ l.length ≤ 9223372036854775807 ∧ ∀ r ∈ l, Fit r.val ∧ r.loops.length ≤ 9223372036854775807 := by
  rcases DataW.trod_slice Tryz.underlying40 h with ⟨e3, rfl⟩ | ⟨a, len, cap, el, rs, m, rfl, e3, rfl, -, hlc, hcap, hel, hget, -, -⟩
  · exact ⟨none, 0, 0, [], e3, ⟨rfl, fun h => by omega⟩, by simp, fun o ho => by cases ho⟩
  · have each : ∀ i, ∃ r : V.RecM, i < len → (∃ vq vn vc kp kn kc, w.cell? (a.add (i * 6)) = some (.string r.key) ∧ CellsV w ((a.add (i * 6)).add 1) r.val vq vn vc ∧ w.cell? ((a.add (i * 6)).add 5) = some (.slice kp kn kc) ∧ IsV w r.val vq vn vc ∧ AtI w kp kn r.loops) ∧ Fit r.val ∧ r.loops.length ≤ 9223372036854775807 := by
      intro i
      by_cases hi : i < len
      · have h1 := hget i hi
        rw [cellsRec, List.getElem?_eq_getElem (by omega)] at h1
        obtain ⟨cs', hc', ht'⟩ := Option.bind_eq_some_iff.1 h1
        obtain ⟨r, vq, vn, vc, kp, kn, kc, rfl, hI, hA, hF, hB⟩ := rec_in ht'
        obtain ⟨_, _, hcc⟩ := World.cells?_some hc'
        have c0 := hcc 0 (by omega)
        rw [show (a.add (i * 6)).add 0 = a.add (i * 6) by simp [Addr.add]] at c0
        refine ⟨r, fun _ => ⟨⟨vq, vn, vc, kp, kn, kc, c0, ⟨hcc 1 (by omega), ?_, ?_, ?_⟩, hcc 5 (by omega), hI, hA⟩, hF, ?_⟩⟩
        · rw [V.add_add]; exact hcc 2 (by omega)
        · rw [V.add_add]; exact hcc 3 (by omega)
        · rw [V.add_add]; exact hcc 4 (by omega)
        · exact hB
      · exact ⟨⟨Tr.bytesL [], noneV, []⟩, fun h => absurd h hi⟩
    refine ⟨some a, len, cap, (List.range len).map (fun i => (each i).choose), e3, ⟨by simp, fun h0 => ⟨a, rfl, fun j x hx => ?_⟩⟩, ?_, fun o ho => ?_⟩
    · simp only [List.getElem?_map, Option.map_eq_some_iff] at hx
      obtain ⟨i, hi, rfl⟩ := hx
      have hj : j < len := by
        have := (List.getElem?_eq_some_iff.1 hi).1
        simpa using this
      rw [List.getElem?_range hj] at hi
      cases hi
      exact ((each j).choose_spec hj).1
    · have hm : maxLen = 9223372036854775807 := by decide
      simp only [List.length_map, List.length_range]
      omega
    · simp only [List.mem_map, List.mem_range] at ho
      obtain ⟨i, hi, rfl⟩ := ho
      obtain ⟨_, h1, h2⟩ := (each i).choose_spec hi
      exact ⟨h1, h2⟩
end
theorem globT_of {w : World} (hS : w.ShapedOpen Tryz.prog) : V.GlobT w := by
  refine ⟨?_, ?_⟩
  · exact cell_of_shapedOpen_int hS (of_decide_eq_true globalsN) (t := tInt) (zero := #[.int .i64 0]) (by kernel_rfl) rfl (by kernel_rfl) (by kernel_rfl) Tryz.underlying3
  · obtain ⟨h1, _⟩ := hS
    obtain ⟨⟨z, t⟩, he⟩ := Option.isSome_iff_exists.1 last_there
    obtain ⟨cs, hc, _⟩ := h1 (9 - 1) z t (by have := of_decide_eq_true globN; omega) he
    have h8 : 9 - 1 < w.heap.size := (Array.getElem?_eq_some_iff.1 hc).1
    show 9 ≤ w.heap.size
    omega
theorem pow_of {w : World} (h5 : Lib.VarReads Tryz.prog w "internal/strconv.uint64pow10" (Lib.tabData .u64 Lib.pow10Tab)) : Lib.TabIs Tryz.prog w "internal/strconv.uint64pow10" .u64 Lib.pow10Tab := by
  obtain ⟨g, t, cs, fuel, p, hg, hty, hvar, hd⟩ := h5
  obtain rfl := Option.some.inj (gPow.symm.trans hg)
  obtain rfl := Option.some.inj (gPowT.symm.trans hty)
  have hcs := Lib.cells_of_tab Tryz.underlying235 Tryz.underlying185 cellsU64 cellsTab hd
  unfold Lib.TabIs
  rw [hvar, ← hcs]
theorem contract (H : Type) (enc : TypeId × Value → H) (W : World) (base : Nat) (args : Array Value) (ds gs : List (DataW H)) (before : List MemPlace)
    (hval : ∀ (j : Nat) t v, Tryz.f4.params[j]? = some t → args[j]? = some v → Value.okWide Tryz.prog W .any base t v)
    (hW : DataW.Whole enc Tryz.prog Tryz.f4.params.toList Rows.planTapesSpec.vars false W args.toList ds gs before) (hL : laidMetH Tryz.prog Rows.planTapesRow.laid W) (hS : W.ShapedOpen Tryz.prog) :
    Calls Tryz.prog 4 args W fun e W' => ∃ v, e = .returned v ∧ Rows.planTapesSpec.post enc Tryz.prog Tryz.f4 false true false false W args v W' := by
  have hW' := hW
  obtain ⟨p, q, hA0, hV, rfl, hfz, hnd⟩ := hW
  have hA : DataW.TrodAll enc Tryz.prog W 0 (fun _ => true) true Tryz.f4.params.toList args.toList ds p := hA0
  rw [Tryz.params4] at hA hval
  obtain ⟨v0, v1, d0, d1, p0, p1, rfl, rfl, rfl, h0, h1⟩ := trodAll_two hA
  obtain ⟨rfl, rfl⟩ := trodVars_none hV
  obtain ⟨s, rfl, rfl, _, -⟩ := Go.ChangeMaps.open_string Tryz.underlying9 (hval 0 9 v0 rfl rfl) h0
  obtain ⟨a, n, c, rfl⟩ := okWide_slice Tryz.underlying40 (hval 1 40 v1 rfl rfl)
  obtain ⟨fuel, h1'⟩ := h1
  obtain ⟨p', n', c', l, e1, hAt, hn, hkp⟩ := recs_in h1'
  have e1 : [Value.slice a n c] = [Value.slice p' n' c'] := e1
  simp only [List.cons.injEq, Value.slice.injEq, and_true] at e1
  obtain ⟨rfl, rfl, rfl⟩ := e1
  have hL' : laidMet Tryz.prog Rows.planTapesRow.laid W := hL
  have hG : V.GlobT W := globT_of hS
  have hT : Tabs W := ⟨utf8Tabs_of_reads Tryz.lays260 u8extra (by rw [← first_is]; exact Lib.laidMet.reads hL' (by simp [Rows.planTapesRow])) (by rw [← accept_is]; exact Lib.laidMet.reads hL' (by simp [Rows.planTapesRow])), pow_of (by rw [← pow_is]; exact Lib.laidMet.reads hL' (by simp [Rows.planTapesRow]))⟩
  have hE : V.Ev W := ev_of (Lib.laidMet.reads hL' (d := Rows.laid_strconv_ErrRange) (by simp [Rows.planTapesRow]))
  refine (V.ltp_any s a n c l W hAt (by have := hAt.1; omega) (fun r hr => (hkp r hr).2) (fun r hr => (hkp r hr).1) hG hT hE).mono fun e W1 ⟨he, hc⟩ => ?_
  subst he
  refine ⟨_, rfl, post_law rfl rfl rfl (fun t ht => ?_) hW' hc⟩
  rw [Tryz.params4] at ht
  simp at ht
  rcases ht with rfl | rfl
  · exact rowStr
  · exact rowRecs
abbrev wit : Array Value := #[.string (Tr.bytesL []), .slice none 0 0]
theorem laid_met (os : Os) : laidMet Tryz.prog Rows.planTapesRow.laid (((World.laidAll Tryz.prog os Rows.planTapesRow.laid).forCall (fun _ _ => 0) ⟨#[], wit, []⟩).memory) :=
  laidMet_laidAll _ (by kernel_rfl) (by kernel_rfl)
theorem reads (os : Os) {H : Type} (enc : TypeId × Value → H) : DataW.whole enc Tryz.prog (((World.laidAll Tryz.prog os Rows.planTapesRow.laid).forCall (fun _ _ => 0) ⟨#[], wit, []⟩).memory) Tryz.f4.params.toList Rows.planTapesSpec.vars false wit.toList 8 = some ([.lit (.string []), .nil], [], []) := by kernel_rfl
theorem lifted (os : Os) (started : os.Started) (H : Type) (enc : TypeId × Value → H) (F : Stop.Interp) :
    ReturnsInHanded {} Tryz.checked os 4 .any ((OpenSpec.ofChange Rows.planTapesSpec).preRow enc Tryz.prog Tryz.f4 Rows.planTapesRow.domain false Rows.planTapesRow.laid) (((OpenSpec.ofChange Rows.planTapesSpec).at F).post enc Tryz.prog Tryz.f4 false true false false) := by
  have hx := reads os enc
  refine returnsInHanded_of_row (C := Tryz.checked) (s := OpenSpec.ofChange Rows.planTapesSpec) own started (by kernel_rfl) Tryz.func4
    (witness_row_atRef (enc := enc) (C := Tryz.checked) false (World.laidAll Tryz.prog os Rows.planTapesRow.laid) wit (World.laidAll_os _ _ _) (by kernel_rfl) (by kernel_rfl) (by kernel_rfl)
      (OpenSpec.preRow_of_cond 8 hx (by kernel_rfl) (fun k hk => by cases hk) (by kernel_rfl) (laid_met os))) ?_
  intro W base args ds gs before hval hW _ _ _ hL hS _
  exact contract H enc W base args ds gs before hval hW hL hS
theorem said : Rows.PlanTapesSaid :=
  OpenClaim.holds_of_cond 4 Tryz.f4 rfl rfl rfl rfl rfl rfl rfl ⟨rfl, rfl, rfl, rfl, rfl⟩ rfl rfl rfl rfl rfl (by kernel_rfl) Tryz.func4 (by kernel_rfl)
    (of_decide_eq_true (by kernel_rfl)) (by unfold Func.isWrapper; first | (rw [if_pos (by decide +kernel)]; kernel_rfl) | (rw [if_neg (by decide +kernel)]; exact ⟨rfl, rfl⟩))
    (fun os started H enc _ F => by rw [OpenClaim.pre_eq_preRow]; exact lifted os started H enc F)
theorem plain (f : FuncId) (fn : Func) (hf : Tryz.pinned.checked.prog.funcNamed "eddy/eddylaw6.PlanTapes" = some f) (hfn : Tryz.pinned.checked.prog.funcs[f]? = some fn) :
    true = Tryz.pinned.checked.prog.looks [] ∧ ∀ (j : Nat) t, fn.params[j]? = some t → Tryz.pinned.checked.prog.wantsStandIn t = false := by
  obtain rfl : f = 4 := Option.some.inj ((show Tryz.prog.funcNamed "eddy/eddylaw6.PlanTapes" = some 4 by kernel_rfl).symm.trans hf) |>.symm
  obtain rfl : fn = Tryz.f4 := (Option.some.inj (Tryz.func4.symm.trans hfn)).symm
  refine ⟨by kernel_rfl, fun j t ht => ?_⟩
  rw [Tryz.params4] at ht
  have : t = 9 ∨ t = 40 := by simpa using Array.mem_of_getElem? ht
  rcases this with rfl | rfl
  · exact (show Tryz.prog.wantsStandIn 9 = false by kernel_rfl)
  · exact (show Tryz.prog.wantsStandIn 40 = false by kernel_rfl)
theorem planTapes_holds : Rows.PlanTapesCardSaid :=
  Claim7.holds_tied_plain_at .later [] _ _ _ _ said (fun _ h => by cases h) (by kernel_rfl) (fun _ h => by cases h) planTapes_row_tie rfl ⟨rfl, rfl⟩ (by kernel_rfl) rfl plain (by kernel_rfl)
#print axioms planTapes_holds
end Go.Proofs.YtjlmkahagcojcaaGreatDoor
