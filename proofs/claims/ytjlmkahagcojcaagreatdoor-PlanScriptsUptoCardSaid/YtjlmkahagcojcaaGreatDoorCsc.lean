/- PlanScripts (a tied card, the second form): whatever the text and the steps of bulk at most 1048576, the law answers true: ParseScript and PrintScript answer as the document does. Conditions: the row's own: the listed variables of the program and of the library read as laid. -/
import Derived.Test.YtjlmkahagcojcaaGreatDoorPost
import Derived.Test.YtjlmkahagcojcaaGreatDoorRlw
import Derived.Shelf.Vars
import Derived.ChangeMaps5
import Derived.Lib.LaidU8
namespace Go.Proofs.YtjlmkahagcojcaaGreatDoor
open Go Go.ChangeShapes Go.WideShapes Go.ChangeAt Go.RowKit
set_option maxRecDepth 100000
theorem own : ownKnob Tryz.prog.godebug = none := by kernel_rfl
theorem rowInt : Tryz.prog.readableRec tInt = true ∧ tInt < Tryz.prog.types.size := ⟨by kernel_rfl, of_decide_eq_true (by kernel_rfl)⟩
theorem rowStr : Tryz.prog.readableRec 9 = true ∧ 9 < Tryz.prog.types.size := ⟨by kernel_rfl, of_decide_eq_true (by kernel_rfl)⟩
/-! ### the program's own variables -/
def stepsD : DataW Unit := .agg (stepsL.map fun x => .agg [.lit (.string x.1), .lit (.int .i64 x.2)])
theorem steps_is : (Rows.laid_eddy_plan_steps : DataW Unit) = stepsD := by kernel_rfl
theorem gS : Tryz.prog.globalNamed "eddy/plan.steps" = some 0 := by kernel_rfl
theorem gST : (Tryz.prog.globals[0]?).map (·.type) = some 130 := by kernel_rfl
theorem cStep : Tryz.prog.cellsOf 129 = 2 := by kernel_rfl
theorem cStr : Tryz.prog.cellsOf 9 = 1 := by kernel_rfl
theorem cInt : Tryz.prog.cellsOf tInt = 1 := by kernel_rfl
theorem step_of {w : World} {fuel : Nat} {cs : List Value} {x : List UInt8 × Int} {p : List MemPlace} (h : DataW.trod (fun _ => ()) Tryz.prog w 0 (fun _ => true) false fuel 129 cs = some (.agg [.lit (.string x.1), .lit (.int .i64 x.2)], p)) : cs = [.string (Tr.bytesL x.1), .int .i64 x.2] := by
  obtain ⟨xs, n, rfl, hx, hl, hxl, hall⟩ := DataW.trod_struct Tryz.underlying129 h
  rw [cStep] at hl
  have hxl : xs.length = 2 := hxl
  match cs, hl, xs, hxl with
  | [v0, v1], _, [y0, y1], _ =>
    have g0 : DataW.trod (fun _ => ()) Tryz.prog w 0 (fun _ => true) false n 9 (List.take (Tryz.prog.cellsOf 9) (List.drop 0 [v0, v1])) = some y0 := hall 0 _ rfl
    have g1 : DataW.trod (fun _ => ()) Tryz.prog w 0 (fun _ => true) false n tInt (List.take (Tryz.prog.cellsOf tInt) (List.drop 1 [v0, v1])) = some y1 := hall 1 _ rfl
    rw [cStr] at g0
    rw [cInt] at g1
    simp only [List.drop_zero, List.drop_succ_cons, List.take_succ_cons, List.take_zero] at g0 g1
    obtain ⟨s, e0, rfl, _⟩ := DataW.trod_string Tryz.underlying9 g0
    obtain ⟨z, e1, rfl, _⟩ := DataW.trod_int Tryz.underlying3 g1
    cases e0; cases e1
    simp at hx
    obtain ⟨⟨hx1, hx2⟩, _⟩ := hx
    rw [hx1, hx2]
theorem globalsN : decide (2 < Tryz.prog.globals.size) = true := by kernel_rfl
theorem globN : decide (9 ≤ Tryz.prog.globals.size) = true := by kernel_rfl
theorem last_there : ((begin Tryz.prog (fun _ _ => 0) default).world.heap[9 - 1]?).bind Obj.row? |>.isSome := by kernel_rfl
theorem pow_is : (Rows.laid_internal_strconv_uint64pow10 : DataW Unit) = Lib.tabData .u64 Lib.pow10Tab := by kernel_rfl
theorem gPow : Tryz.prog.globalNamed "internal/strconv.uint64pow10" = some 1 := by kernel_rfl
theorem gPowT : (Tryz.prog.globals[1]?).map (·.type) = some 235 := by kernel_rfl
theorem cellsTab : Tryz.prog.cellsOf 235 = 20 := by kernel_rfl
theorem cellsU64 : Tryz.prog.cellsOf 185 = 1 := by kernel_rfl
theorem glob_of {w : World} (h : Lib.VarReads Tryz.prog w "eddy/plan.steps" stepsD) (h5 : Lib.VarReads Tryz.prog w "internal/strconv.uint64pow10" (Lib.tabData .u64 Lib.pow10Tab)) (hS : w.ShapedOpen Tryz.prog) : Glob w := by
  obtain ⟨g', t', cs, fuel, p, hg', hty', hvar, hd⟩ := h
  obtain rfl := Option.some.inj (gS.symm.trans hg')
  obtain rfl := Option.some.inj (gST.symm.trans hty')
  have hl : stepsL.length = 10 := rfl
  have el : ∀ i x, stepsL[i]? = some x → (cs.toList.drop (i * 2)).take 2 = [.string (Tr.bytesL x.1), .int .i64 x.2] := fun i x hx => by
    have hi : i < 10 := by rw [← hl]; exact (List.getElem?_eq_some_iff.1 hx).1
    obtain ⟨fuel', d, q, hdi, hre⟩ := Lib.array_elem Tryz.underlying130 hd i hi
    rw [List.getElem?_map, hx] at hdi
    cases hdi
    rw [cStep] at hre
    exact step_of hre
  have cell : ∀ i j x v, stepsL[i]? = some x → j < 2 → [Value.string (Tr.bytesL x.1), .int .i64 x.2][j]? = some v → w.cell? ⟨0, i * 2 + j, none⟩ = some v := fun i j x v hx hj hv => by
    have e0 := congrArg (·[j]?) (el i x hx)
    simp only [List.getElem?_take, List.getElem?_drop, if_pos hj] at e0
    rw [World.var?_cell gS hvar (i * 2 + j), ← Array.getElem?_toList, e0]
    exact hv
  refine ⟨fun i x hx => ?_, fun i x hx => cell i 1 x _ hx (by decide) rfl, ?_, ?_, ?_⟩
  · have := cell i 0 x _ hx (by decide) rfl
    rwa [Nat.add_zero] at this
  · exact cell_of_shapedOpen_int hS (of_decide_eq_true globalsN) (t := tInt) (zero := #[.int .i64 0]) (by kernel_rfl) rfl (by kernel_rfl) (by kernel_rfl) Tryz.underlying3
  · obtain ⟨h1, _⟩ := hS
    obtain ⟨⟨z, t⟩, he⟩ := Option.isSome_iff_exists.1 last_there
    obtain ⟨cs, hc, _⟩ := h1 (9 - 1) z t (by have := of_decide_eq_true globN; omega) he
    have h8 : 9 - 1 < w.heap.size := (Array.getElem?_eq_some_iff.1 hc).1
    show 9 ≤ w.heap.size
    omega
  · obtain ⟨g, t, cs, fuel, p, hg, hty, hvar, hd⟩ := h5
    obtain rfl := Option.some.inj (gPow.symm.trans hg)
    obtain rfl := Option.some.inj (gPowT.symm.trans hty)
    have hcs := Lib.cells_of_tab Tryz.underlying235 Tryz.underlying185 cellsU64 cellsTab hd
    unfold Lib.TabIs
    rw [hvar, ← hcs]
/-! ### the steps that come in -/
theorem bulk_one {H : Type} (d : DataW H) : 1 ≤ Rows.uptoBulk d := by
  cases d with
  | lit l => cases l <;> simp [Rows.uptoBulk]
  | nil => simp [Rows.uptoBulk]
  | ptr d => simp [Rows.uptoBulk]
  | slice elems spare => simp [Rows.uptoBulk]
  | agg parts => simp [Rows.uptoBulk]
  | iface t d => simp [Rows.uptoBulk]
  | map entries => simp [Rows.uptoBulk]
  | held h => simp [Rows.uptoBulk]
theorem bulk_part {H : Type} {d : DataW H} {l : List (DataW H)} (h : d ∈ l) : Rows.uptoBulk d ≤ Rows.uptoBulkAll l := by
  induction l with
  | nil => cases h
  | cons x r ih =>
    simp only [Rows.uptoBulkAll]
    rcases List.mem_cons.1 h with rfl | e
    · omega
    · have := ih e; omega
theorem bulk_len {H : Type} (l : List (DataW H)) : l.length ≤ Rows.uptoBulkAll l := by
  induction l with
  | nil => simp
  | cons x r ih => have := bulk_one x; simp only [Rows.uptoBulkAll, List.length_cons]; omega
theorem cellsOp : Tryz.prog.cellsOf tOp = 4 := by kernel_rfl
theorem cellsInts : Tryz.prog.cellsOf tInts = 1 := by kernel_rfl
section
variable {H : Type} {enc : TypeId × Value → H} {w : World} {base : Nat} {sp : Nat → Bool} {held : Bool}
theorem ints_of {fuel : Nat} {cs : List Value} {x : DataW H × List MemPlace} (h : DataW.trod enc Tryz.prog w base sp held fuel tInts cs = some x) : ∃ p n c l, cs = [.slice p n c] ∧ AtI w p n l ∧ l.length ≤ Rows.uptoBulk x.1 := by
  rcases DataW.trod_slice Tryz.underlying36 h with ⟨e3, rfl⟩ | ⟨a, len, cap, el, rs, m, rfl, e3, rfl, -, hlc, hcap, hel, hget, -, -⟩
  · exact ⟨none, 0, 0, [], e3, ⟨rfl, fun h => by omega⟩, by simp⟩
  · have each : ∀ i, ∃ z : Int, i < len → w.cell? (a.add i) = some (.int .i64 z) := by
      intro i
      by_cases hi : i < len
      · have h1 := hget i hi
        rw [cInt, Nat.mul_one, List.getElem?_eq_getElem (by omega)] at h1
        obtain ⟨cs', hc', ht'⟩ := Option.bind_eq_some_iff.1 h1
        obtain ⟨z, rfl, _, _⟩ := DataW.trod_int Tryz.underlying3 ht'
        obtain ⟨_, _, hcc⟩ := World.cells?_some hc'
        have := hcc 0 (by omega)
        rw [show (a.add i).add 0 = a.add i by simp [Addr.add]] at this
        exact ⟨z, fun _ => this⟩
      · exact ⟨0, fun h => absurd h hi⟩
    obtain ⟨F, hF⟩ : ∃ F : Nat → Int, ∀ i, i < len → w.cell? (a.add i) = some (.int .i64 (F i)) := ⟨fun i => (each i).choose, fun i => (each i).choose_spec⟩
    refine ⟨some a, len, cap, (List.range len).map F, e3, ⟨by simp, fun h0 => ?_⟩, ?_⟩
    · have hsp : a.spot = none := by
        have h00 := hF 0 h0
        simpa [Addr.add] using World.cell?_spot h00
      obtain ⟨g, o, spot⟩ := a
      obtain rfl : spot = none := hsp
      refine ⟨g, o, rfl, fun j x hx => ?_⟩
      simp only [List.getElem?_map, Option.map_eq_some_iff] at hx
      obtain ⟨i, hi, rfl⟩ := hx
      have hj : j < len := by
        have := (List.getElem?_eq_some_iff.1 hi).1
        simpa using this
      rw [List.getElem?_range hj] at hi
      cases hi
      have := hF j hj
      rw [addr_add] at this
      exact this
    · have h1 := bulk_len (el.map (·.1))
      simp only [Rows.uptoBulk, List.length_map, List.length_range] at h1 ⊢
      omega
theorem op_of {fuel : Nat} {cs : List Value} {x : DataW H × List MemPlace} (h : DataW.trod enc Tryz.prog w base sp held fuel tOp cs = some x) : ∃ (o : OpM) (p : Option Addr) (n c : Nat), cs = opCells o.kind o.a o.b p n c ∧ AtI w p n o.keep ∧ o.keep.length ≤ Rows.uptoBulk x.1 := by
  obtain ⟨xs, n, rfl, rfl, hl, hxl, hall⟩ := DataW.trod_struct Tryz.underlying38 h
  rw [cellsOp] at hl
  have hxl : xs.length = 4 := hxl
  match cs, hl, xs, hxl with
  | [v0, v1, v2, v3], _, [y0, y1, y2, y3], _ =>
    have g0 : DataW.trod enc Tryz.prog w base sp held n tInt (List.take (Tryz.prog.cellsOf tInt) (List.drop 0 [v0, v1, v2, v3])) = some y0 := hall 0 _ rfl
    have g1 : DataW.trod enc Tryz.prog w base sp held n tInt (List.take (Tryz.prog.cellsOf tInt) (List.drop 1 [v0, v1, v2, v3])) = some y1 := hall 1 _ rfl
    have g2 : DataW.trod enc Tryz.prog w base sp held n tInt (List.take (Tryz.prog.cellsOf tInt) (List.drop 2 [v0, v1, v2, v3])) = some y2 := hall 2 _ rfl
    have g3 : DataW.trod enc Tryz.prog w base sp held n tInts (List.take (Tryz.prog.cellsOf tInts) (List.drop 3 [v0, v1, v2, v3])) = some y3 := hall 3 _ rfl
    rw [cInt] at g0 g1 g2
    rw [cellsInts] at g3
    simp only [List.drop_zero, List.drop_succ_cons, List.take_succ_cons, List.take_zero] at g0 g1 g2 g3
    obtain ⟨k, e0, -, -⟩ := DataW.trod_int Tryz.underlying3 g0
    obtain ⟨a, e1, -, -⟩ := DataW.trod_int Tryz.underlying3 g1
    obtain ⟨b, e2, -, -⟩ := DataW.trod_int Tryz.underlying3 g2
    obtain ⟨p, m, c, l, e3, hA, hB⟩ := ints_of g3
    cases e0; cases e1; cases e2; cases e3
    refine ⟨⟨k, a, b, l⟩, p, m, c, rfl, hA, ?_⟩
    have := bulk_part (d := y3.1) (l := [y0, y1, y2, y3].map (·.1)) (by simp)
    simp only [Rows.uptoBulk]
    omega
theorem ops_of {fuel : Nat} {cs : List Value} {x : DataW H × List MemPlace} (h : DataW.trod enc Tryz.prog w base sp held fuel tOps cs = some x) : ∃ p n c l, cs = [.slice p n c] ∧ AtOps w p n l ∧ l.length ≤ Rows.uptoBulk x.1 ∧ ∀ o ∈ l, o.keep.length ≤ Rows.uptoBulk x.1 := by
  rcases DataW.trod_slice Tryz.underlying22 h with ⟨e3, rfl⟩ | ⟨a, len, cap, el, rs, m, rfl, e3, rfl, -, hlc, hcap, hel, hget, -, -⟩
  · exact ⟨none, 0, 0, [], e3, ⟨rfl, fun h => by omega⟩, by simp, fun o ho => by cases ho⟩
  · have each : ∀ i, ∃ o : OpM, i < len → (∃ kp kn kc, AtI w kp kn o.keep ∧ w.cell? (a.add (i * 4)) = some (.int .i64 o.kind) ∧ w.cell? ((a.add (i * 4)).add 1) = some (.int .i64 o.a) ∧ w.cell? ((a.add (i * 4)).add 2) = some (.int .i64 o.b) ∧ w.cell? ((a.add (i * 4)).add 3) = some (.slice kp kn kc)) ∧ o.keep.length ≤ Rows.uptoBulkAll (el.map (·.1)) := by
      intro i
      by_cases hi : i < len
      · have h1 := hget i hi
        rw [cellsOp, List.getElem?_eq_getElem (by omega)] at h1
        obtain ⟨cs', hc', ht'⟩ := Option.bind_eq_some_iff.1 h1
        obtain ⟨o, p, n, c, rfl, hA, hB⟩ := op_of ht'
        obtain ⟨_, _, hcc⟩ := World.cells?_some hc'
        have c0 := hcc 0 (by omega)
        rw [show (a.add (i * 4)).add 0 = a.add (i * 4) by simp [Addr.add]] at c0
        refine ⟨o, fun _ => ⟨⟨p, n, c, hA, c0, hcc 1 (by omega), hcc 2 (by omega), hcc 3 (by omega)⟩, ?_⟩⟩
        have := bulk_part (d := (el[i]'(by omega)).1) (l := el.map (·.1)) (List.mem_map.2 ⟨_, List.getElem_mem _, rfl⟩)
        omega
      · exact ⟨⟨0, 0, 0, []⟩, fun h => absurd h hi⟩
    obtain ⟨F, hF⟩ : ∃ F : Nat → OpM, ∀ i, i < len → (∃ kp kn kc, AtI w kp kn (F i).keep ∧ w.cell? (a.add (i * 4)) = some (.int .i64 (F i).kind) ∧ w.cell? ((a.add (i * 4)).add 1) = some (.int .i64 (F i).a) ∧ w.cell? ((a.add (i * 4)).add 2) = some (.int .i64 (F i).b) ∧ w.cell? ((a.add (i * 4)).add 3) = some (.slice kp kn kc)) ∧ (F i).keep.length ≤ Rows.uptoBulkAll (el.map (·.1)) := ⟨fun i => (each i).choose, fun i => (each i).choose_spec⟩
    refine ⟨some a, len, cap, (List.range len).map F, e3, ⟨by simp, fun h0 => ?_⟩, ?_, fun o ho => ?_⟩
    · have hsp : a.spot = none := by
        obtain ⟨⟨_, _, _, _, h00, _⟩, _⟩ := hF 0 h0
        simpa [Addr.add] using World.cell?_spot h00
      obtain ⟨g, o, spot⟩ := a
      obtain rfl : spot = none := hsp
      refine ⟨g, o, rfl, fun j x hx => ?_⟩
      simp only [List.getElem?_map, Option.map_eq_some_iff] at hx
      obtain ⟨i, hi, rfl⟩ := hx
      have hj : j < len := by
        have := (List.getElem?_eq_some_iff.1 hi).1
        simpa using this
      rw [List.getElem?_range hj] at hi
      cases hi
      obtain ⟨⟨kp, kn, kc, h1, h2, h3, h4, h5⟩, _⟩ := hF j hj
      simp only [addr_add] at h2 h3 h4 h5
      exact ⟨kp, kn, kc, h1, h2, h3, h4, h5⟩
    · have h1 := bulk_len (el.map (·.1))
      simp only [Rows.uptoBulk, List.length_map, List.length_range] at h1 ⊢
      omega
    · simp only [List.mem_map, List.mem_range] at ho
      obtain ⟨i, hi, rfl⟩ := ho
      have := (hF i hi).2
      simp only [Rows.uptoBulk]
      omega
end
theorem rowOps : Tryz.prog.readableRec tOps = true ∧ tOps < Tryz.prog.types.size := ⟨by kernel_rfl, of_decide_eq_true (by kernel_rfl)⟩
theorem contract (H : Type) (enc : TypeId × Value → H) (W : World) (base : Nat) (args : Array Value) (ds gs : List (DataW H)) (before : List MemPlace)
    (hval : ∀ (j : Nat) t v, Tryz.f3.params[j]? = some t → args[j]? = some v → Value.okWide Tryz.prog W .any base t v)
    (hW : DataW.Whole enc Tryz.prog Tryz.f3.params.toList Rows.planScriptsSpec.vars false W args.toList ds gs before) (hk : Rows.uptoSmall H (ds ++ gs) = true) (hL : laidMetH Tryz.prog Rows.planScriptsUptoRow.laid W) (hS : W.ShapedOpen Tryz.prog) :
    Calls Tryz.prog 3 args W fun e W' => ∃ v, e = .returned v ∧ Rows.planScriptsSpec.post enc Tryz.prog Tryz.f3 false true false false W args v W' := by
  have hW' := hW
  obtain ⟨p, q, hA0, hV, rfl, hfz, hnd⟩ := hW
  have hA : DataW.TrodAll enc Tryz.prog W 0 (fun _ => true) true Tryz.f3.params.toList args.toList ds p := hA0
  rw [Tryz.params3] at hA hval
  obtain ⟨v0, v1, d0, d1, p0, p1, rfl, rfl, rfl, h0, h1⟩ := trodAll_two hA
  obtain ⟨rfl, rfl⟩ := trodVars_none hV
  obtain ⟨s, rfl, rfl, _, -⟩ := Go.ChangeMaps.open_string Tryz.underlying9 (hval 0 9 v0 rfl rfl) h0
  obtain ⟨a, n, c, rfl⟩ := okWide_slice Tryz.underlying22 (hval 1 tOps v1 rfl rfl)
  have hb : Rows.uptoBulk d1 ≤ 1048576 := by
    have h := of_decide_eq_true hk
    simp only [List.append_nil, Rows.uptoBulkAll] at h
    omega
  obtain ⟨fuel, h1'⟩ := h1
  obtain ⟨p', n', c', l, e1, hAt, hn, hkp⟩ := ops_of h1'
  have e1 : [Value.slice a n c] = [Value.slice p' n' c'] := e1
  simp only [List.cons.injEq, Value.slice.injEq, and_true] at e1
  obtain ⟨rfl, rfl, rfl⟩ := e1
  have hL' : laidMet Tryz.prog Rows.planScriptsUptoRow.laid W := hL
  have hG : Glob W := glob_of (by rw [← steps_is]; exact Lib.laidMet.reads hL' (by simp [Rows.planScriptsUptoRow])) (by rw [← pow_is]; exact Lib.laidMet.reads hL' (by simp [Rows.planScriptsUptoRow])) hS
  dsimp only at hn hkp
  refine (lsc_any s a n c l W hAt (by have := hAt.1; omega) (fun o ho => by have := hkp o ho; omega) hG).mono fun e W1 ⟨he, hc⟩ => ?_
  subst he
  refine ⟨_, rfl, post_law rfl rfl rfl (fun t ht => ?_) hW' hc⟩
  rw [Tryz.params3] at ht
  simp at ht
  rcases ht with rfl | rfl
  · exact rowStr
  · exact rowOps
abbrev wit : Array Value := #[.string (Tr.bytesL []), .slice none 0 0]
theorem laid_met (os : Os) : laidMet Tryz.prog Rows.planScriptsUptoRow.laid (((World.laidAll Tryz.prog os Rows.planScriptsUptoRow.laid).forCall (fun _ _ => 0) ⟨#[], wit, []⟩).memory) :=
  laidMet_laidAll _ (by kernel_rfl) (by kernel_rfl)
theorem reads (os : Os) {H : Type} (enc : TypeId × Value → H) : DataW.whole enc Tryz.prog (((World.laidAll Tryz.prog os Rows.planScriptsUptoRow.laid).forCall (fun _ _ => 0) ⟨#[], wit, []⟩).memory) Tryz.f3.params.toList Rows.planScriptsSpec.vars false wit.toList 8 = some ([.lit (.string []), .nil], [], []) := by kernel_rfl
theorem lifted (os : Os) (started : os.Started) (H : Type) (enc : TypeId × Value → H) (F : Stop.Interp) :
    ReturnsInHanded {} Tryz.checked os 3 .any ((Rows.OpenSpec.upto Rows.planScriptsSpec).preRow enc Tryz.prog Tryz.f3 Rows.planScriptsUptoRow.domain false Rows.planScriptsUptoRow.laid) (((Rows.OpenSpec.upto Rows.planScriptsSpec).at F).post enc Tryz.prog Tryz.f3 false true false false) := by
  have hx := reads os enc
  refine returnsInHanded_of_row (C := Tryz.checked) (s := Rows.OpenSpec.upto Rows.planScriptsSpec) own started (by kernel_rfl) Tryz.func3
    (witness_row_at (enc := enc) (C := Tryz.checked) false (World.laidAll Tryz.prog os Rows.planScriptsUptoRow.laid) wit (World.laidAll_os _ _ _) (by kernel_rfl) (by kernel_rfl) (by kernel_rfl)
      (OpenSpec.preRow_of_cond 8 hx (by kernel_rfl) (fun k hk => by cases hk; kernel_rfl) (by kernel_rfl) (laid_met os))) ?_
  intro W base args ds gs before hval hW _ hcond _ hL hS _
  exact contract H enc W base args ds gs before hval hW (hcond _ rfl) hL hS
theorem said : Rows.PlanScriptsUptoSaid :=
  OpenClaim.holds_of_cond 3 Tryz.f3 rfl rfl rfl rfl rfl rfl rfl ⟨rfl, rfl, rfl, rfl, rfl⟩ rfl rfl rfl rfl rfl (by kernel_rfl) Tryz.func3 (by kernel_rfl)
    (of_decide_eq_true (by kernel_rfl)) (by unfold Func.isWrapper; first | (rw [if_pos (by decide +kernel)]; kernel_rfl) | (rw [if_neg (by decide +kernel)]; exact ⟨rfl, rfl⟩))
    (fun os started H enc _ F => by rw [OpenClaim.pre_eq_preRow]; exact lifted os started H enc F)
theorem plain (f : FuncId) (fn : Func) (hf : Tryz.pinned.checked.prog.funcNamed "eddy/eddylaw6.PlanScripts" = some f) (hfn : Tryz.pinned.checked.prog.funcs[f]? = some fn) :
    true = Tryz.pinned.checked.prog.looks [] ∧ ∀ (j : Nat) t, fn.params[j]? = some t → Tryz.pinned.checked.prog.wantsStandIn t = false := by
  obtain rfl : f = 3 := Option.some.inj ((show Tryz.prog.funcNamed "eddy/eddylaw6.PlanScripts" = some 3 by kernel_rfl).symm.trans hf) |>.symm
  obtain rfl : fn = Tryz.f3 := (Option.some.inj (Tryz.func3.symm.trans hfn)).symm
  refine ⟨by kernel_rfl, fun j t ht => ?_⟩
  rw [Tryz.params3] at ht
  have : t = 9 ∨ t = tOps := by simpa using Array.mem_of_getElem? ht
  rcases this with rfl | rfl
  · exact (show Tryz.prog.wantsStandIn 9 = false by kernel_rfl)
  · exact (show Tryz.prog.wantsStandIn tOps = false by kernel_rfl)
theorem planScriptsUpto_holds : Rows.PlanScriptsUptoCardSaid :=
  Claim7.holds_tied_plain_at .later [] _ _ _ _ said (fun _ h => by cases h) (by kernel_rfl) (fun _ h => by cases h) planScriptsUpto_row_tie rfl ⟨rfl, rfl⟩ (by kernel_rfl) rfl plain (by kernel_rfl)
#print axioms planScriptsUpto_holds
end Go.Proofs.YtjlmkahagcojcaaGreatDoor
