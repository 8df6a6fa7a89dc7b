/- A plan that comes in, opened; the listed variables of the shape laws. -/
import Derived.Test.YtkebljkdkaagfaaGreatDoorPost
import Derived.Test.YtkebljkdkaagfaaGreatDoorSha
import Derived.Shelf.Vars
import Derived.ChangeMaps5
import Derived.Lib.LaidU8
import Derived.Lib.SmallJoins
import Derived.Deep.DeepWitnessRowRef
import Derived.SizedLaws
namespace Go.Proofs.YtkebljkdkaagfaaGreatDoor
open Go Go.ChangeShapes Go.WideShapes Go.ChangeAt Go.RowKit
set_option maxRecDepth 100000
theorem own : ownKnob Tryz.prog.godebug = none := by kernel_rfl
theorem rowPlan : Tryz.prog.readableRec 25 = true ∧ 25 < Tryz.prog.types.size := ⟨by kernel_rfl, of_decide_eq_true (by kernel_rfl)⟩
theorem cStr : Tryz.prog.cellsOf 9 = 1 := by kernel_rfl
theorem cInt : Tryz.prog.cellsOf 3 = 1 := by kernel_rfl
theorem cStrs : Tryz.prog.cellsOf 44 = 1 := by kernel_rfl
theorem cTask : Tryz.prog.cellsOf 46 = 4 := by kernel_rfl
theorem cEdge : Tryz.prog.cellsOf 39 = 4 := by kernel_rfl
theorem cTasks : Tryz.prog.cellsOf 22 = 1 := by kernel_rfl
theorem cEdges : Tryz.prog.cellsOf 23 = 1 := by kernel_rfl
theorem cPlan : Tryz.prog.cellsOf 25 = 3 := by kernel_rfl
/-! ### the listed variables -/
theorem globN : decide (11 ≤ Tryz.prog.globals.size) = true := by kernel_rfl
theorem last_there : ((begin Tryz.prog (fun _ _ => 0) default).world.heap[11 - 1]?).bind Obj.row? |>.isSome := by kernel_rfl
theorem pow_is : (Rows.laid_internal_strconv_uint64pow10 : DataW Unit) = Lib.tabData .u64 Lib.pow10Tab := by kernel_rfl
theorem gPow : Tryz.prog.globalNamed "internal/strconv.uint64pow10" = some 8 := by kernel_rfl
theorem gPowT : (Tryz.prog.globals[8]?).map (·.type) = some 246 := by kernel_rfl
theorem cellsTab : Tryz.prog.cellsOf 246 = 20 := by kernel_rfl
theorem cellsU64 : Tryz.prog.cellsOf 196 = 1 := by kernel_rfl
theorem pow_of {w : World} (h5 : Lib.VarReads Tryz.prog w "internal/strconv.uint64pow10" (Lib.tabData .u64 Lib.pow10Tab)) : Lib.TabIs Tryz.prog w "internal/strconv.uint64pow10" .u64 Lib.pow10Tab := by
  obtain ⟨g, t, cs, fuel, p, hg, hty, hvar, hd⟩ := h5
  obtain rfl := Option.some.inj (gPow.symm.trans hg)
  obtain rfl := Option.some.inj (gPowT.symm.trans hty)
  have hcs := Lib.cells_of_tab Tryz.underlying246 Tryz.underlying196 cellsU64 cellsTab hd
  unfold Lib.TabIs
  rw [hvar, ← hcs]
theorem u8extra : U8Extra Tryz.prog Tryz.lays260_ren := ⟨by kernel_rfl, by kernel_rfl, by kernel_rfl, by kernel_rfl, by kernel_rfl, by kernel_rfl, by kernel_rfl⟩
theorem first_is : Rows.laid_unicode_utf8_first = Lib.firstData := by kernel_rfl
theorem accept_is : (Rows.laid_unicode_utf8_acceptRanges : DataW Unit) = Lib.acceptData := by kernel_rfl
theorem gRange : Tryz.prog.globalNamed "strconv.ErrRange" = some 7 := by kernel_rfl
theorem gRangeT : (Tryz.prog.globals[7]?).map (·.type) = some 84 := by kernel_rfl
theorem ev_of {w : World} {d : DataW Unit} (h : Lib.VarReads Tryz.prog w "strconv.ErrRange" (.iface "*errors.errorString" d)) : V.Ev w := by
  obtain ⟨g, t, cs, fuel, p, hg, hty, hvar, hd⟩ := h
  obtain rfl := Option.some.inj (gRange.symm.trans hg)
  obtain rfl := Option.some.inj (gRangeT.symm.trans hty)
  have hc0 := World.var?_cell hg hvar 0
  rw [← Array.getElem?_toList] at hc0
  cases fuel with
  | zero => simp [DataW.trod] at hd
  | succ fuel =>
    simp only [DataW.trod, Tryz.underlying84] at hd
    split at hd <;> simp_all
    exact ⟨_, _, hc0⟩
/-- A table of texts. -/
def txtsD (l : List (List UInt8)) : DataW Unit := .agg (l.map fun t => .lit (.string t))
theorem words_is : (Rows.laid_eddy_expr_words : DataW Unit) = txtsD E.wordsM := by kernel_rfl
theorem signs_is : (Rows.laid_eddy_expr_signs : DataW Unit) = txtsD E.signsM := by kernel_rfl
theorem gWords : Tryz.prog.globalNamed "eddy/expr.words" = some 2 := by kernel_rfl
theorem gWordsT : (Tryz.prog.globals[2]?).map (·.type) = some 117 := by kernel_rfl
theorem gSigns : Tryz.prog.globalNamed "eddy/expr.signs" = some 1 := by kernel_rfl
theorem gSignsT : (Tryz.prog.globals[1]?).map (·.type) = some 112 := by kernel_rfl
/-- A table of texts that reads as laid: its cells. -/
theorem txts_of {w : World} {name : String} {l : List (List UInt8)} {g : Nat} {t : TypeId} {n : Nat} (hg0 : Tryz.prog.globalNamed name = some g) (ht0 : (Tryz.prog.globals[g]?).map (·.type) = some t)
    (hu : Tryz.prog.underlying t = some (.array n 9)) (hl : l.length = n) (h : Lib.VarReads Tryz.prog w name (txtsD l)) :
    ∀ (j : Nat) (x : List UInt8), l[j]? = some x → w.cell? ⟨g, j, none⟩ = some (.string (Tr.bytesL x)) := by
  obtain ⟨g', t', cs, fuel, p, hg', hty', hvar, hd⟩ := h
  obtain rfl := Option.some.inj (hg0.symm.trans hg')
  obtain rfl := Option.some.inj (ht0.symm.trans hty')
  intro j x hx
  have hi : j < n := by rw [← hl]; exact (List.getElem?_eq_some_iff.1 hx).1
  obtain ⟨fuel', d, q, hdi, hre⟩ := Lib.array_elem hu hd j hi
  rw [List.getElem?_map, hx] at hdi
  cases hdi
  rw [cStr, Nat.mul_one] at hre
  obtain ⟨s, e0, e1, -⟩ := DataW.trod_string Tryz.underlying9 hre
  cases e1
  have e2 := congrArg (·[0]?) e0
  simp only [List.getElem?_take, List.getElem?_drop, Nat.add_zero] at e2
  rw [World.var?_cell hg0 hvar j, ← Array.getElem?_toList]
  simpa using e2
def rowsD (l : List (List Int)) : DataW Unit := .agg (l.map fun r => .agg (r.map fun z => .lit (.int .i64 z)))
theorem needs_is : (Rows.laid_eddy_shape_needs : DataW Unit) = rowsD S.needsT := by kernel_rfl
theorem gN : Tryz.prog.globalNamed "eddy/shape.needs" = some 0 := by kernel_rfl
theorem gNT : (Tryz.prog.globals[0]?).map (·.type) = some 73 := by kernel_rfl
theorem cNeed : Tryz.prog.cellsOf 72 = 7 := by kernel_rfl
theorem needs_of {w : World} (h : Lib.VarReads Tryz.prog w "eddy/shape.needs" (rowsD S.needsT)) : ∀ (i j : Nat), i < 14 → j < 7 → w.cell? ⟨0, i * 7 + j, none⟩ = some (.int .i64 ((S.needsT.getD i []).getD j 0)) := by
  obtain ⟨g', t', cs, fuel, p, hg', hty', hvar, hd⟩ := h
  obtain rfl := Option.some.inj (gN.symm.trans hg')
  obtain rfl := Option.some.inj (gNT.symm.trans hty')
  intro i j hi hj
  have hil : i < S.needsT.length := hi
  have h7 : ∀ r ∈ S.needsT, r.length = 7 := by decide
  obtain ⟨fuel', d, q, hdi, hre⟩ := Lib.array_elem Tryz.underlying73 hd i hi
  have hr : S.needsT[i]? = some (S.needsT.getD i []) := by rw [List.getD_eq_getElem?_getD, List.getElem?_eq_getElem hil]; rfl
  rw [List.getElem?_map, hr] at hdi
  cases hdi
  rw [cNeed] at hre
  have := Lib.ints_of_struct Tryz.underlying72 (fun i f hi => by
    match i, hi with
    | 0, hi | 1, hi | 2, hi | 3, hi | 4, hi | 5, hi | 6, hi => simp at hi; subst hi; exact ⟨Tryz.underlying3, rfl, cInt⟩
    | i + 7, hi => simp at hi) cNeed hre
  have e0 := congrArg (·[j]?) this
  have hjl : j < (S.needsT.getD i []).length := by rw [h7 _ (List.mem_of_getElem? hr)]; exact hj
  have hz : (S.needsT.getD i [])[j]? = some ((S.needsT.getD i []).getD j 0) := by rw [List.getD_eq_getElem?_getD (l := S.needsT.getD i []), List.getElem?_eq_getElem hjl]; rfl
  simp only [List.getElem?_take, List.getElem?_drop, List.getElem?_map, hz, if_pos hj] at e0
  rw [World.var?_cell gN hvar (i * 7 + j), ← Array.getElem?_toList]
  exact e0
theorem glS_of {w : World} (hS : w.ShapedOpen Tryz.prog) (hL : laidMet Tryz.prog Rows.shapeOrderRow.laid w) : S.GlS w where
  expr :=
    { words := txts_of (name := "eddy/expr.words") gWords gWordsT Tryz.underlying117 rfl (by rw [← words_is]; exact Lib.laidMet.reads hL (by simp [Rows.shapeOrderRow]))
      signs := txts_of (name := "eddy/expr.signs") gSigns gSignsT Tryz.underlying112 rfl (by rw [← signs_is]; exact Lib.laidMet.reads hL (by simp [Rows.shapeOrderRow]))
      tabs := ⟨utf8Tabs_of_reads Tryz.lays260 u8extra (by rw [← first_is]; exact Lib.laidMet.reads hL (by simp [Rows.shapeOrderRow])) (by rw [← accept_is]; exact Lib.laidMet.reads hL (by simp [Rows.shapeOrderRow])), pow_of (by rw [← pow_is]; exact Lib.laidMet.reads hL (by simp [Rows.shapeOrderRow]))⟩
      ev := ev_of (Lib.laidMet.reads hL (d := Rows.laid_strconv_ErrRange) (by simp [Rows.shapeOrderRow]))
      big := by
        obtain ⟨h1, _⟩ := hS
        obtain ⟨⟨z, t⟩, he⟩ := Option.isSome_iff_exists.1 last_there
        obtain ⟨cs, hc, _⟩ := h1 (11 - 1) z t (by have := of_decide_eq_true globN; omega) he
        have h8 : 11 - 1 < w.heap.size := (Array.getElem?_eq_some_iff.1 hc).1
        omega }
  needs := needs_of (by rw [← needs_is]; exact Lib.laidMet.reads hL (by simp [Rows.shapeOrderRow]))
/-! ### the plan that comes in -/
theorem txt_is (s : ByteArray) : Tr.bytesL s.data.toList = s := rfl
section
variable {H : Type} {enc : TypeId × Value → H} {w : World} {base : Nat} {sp : Nat → Bool} {held : Bool}
theorem got_of {α : Type} {len : Nat} {F : Nat → α} {i : Nat} {x : α} (h : ((List.range len).map F)[i]? = some x) : i < len ∧ x = F i := by
  simp only [List.getElem?_map, Option.map_eq_some_iff] at h
  obtain ⟨j, hj, rfl⟩ := h
  have hi : i < len := by
    have := (List.getElem?_eq_some_iff.1 hj).1
    simpa using this
  rw [List.getElem?_range hi] at hj
  cases hj
  exact ⟨hi, rfl⟩
theorem exprs_of {fuel : Nat} {cs : List Value} {x : DataW H × List MemPlace} (h : DataW.trod enc Tryz.prog w base sp held fuel 44 cs = some x) : ∃ (p : Option Addr) (c : Nat) (l : List (List UInt8)), cs = [.slice p l.length c] ∧ l.length ≤ 9223372036854775807 ∧ S.AtS w p l := by
  have hm : maxLen = 9223372036854775807 := by decide
  rcases DataW.trod_slice Tryz.underlying44 h with ⟨rfl, -⟩ | ⟨a, len, cap, el, rs, m, rfl, rfl, -, -, hlc, hcap, hel, hget, -, -⟩
  · exact ⟨none, 0, [], rfl, by simp, fun j s h => by simp at h⟩
  · have each : ∀ i, ∃ z : List UInt8, i < len → w.cell? (a.add i) = some (.string (Tr.bytesL z)) := by
      intro i
      by_cases hi : i < len
      · have h1 := hget i hi
        rw [cStr, Nat.mul_one, List.getElem?_eq_getElem (by omega)] at h1
        obtain ⟨cs', hc', ht'⟩ := Option.bind_eq_some_iff.1 h1
        obtain ⟨s, rfl, _, _⟩ := DataW.trod_string Tryz.underlying9 ht'
        obtain ⟨_, _, hcc⟩ := World.cells?_some hc'
        have := hcc 0 (by omega)
        rw [show (a.add i).add 0 = a.add i by simp [Addr.add]] at this
        exact ⟨s.data.toList, fun _ => by rw [txt_is]; exact this⟩
      · exact ⟨[], fun h => absurd h hi⟩
    obtain ⟨F, hF⟩ : ∃ F : Nat → List UInt8, ∀ i, i < len → w.cell? (a.add i) = some (.string (Tr.bytesL (F i))) := ⟨fun i => (each i).choose, fun i => (each i).choose_spec⟩
    refine ⟨some a, cap, (List.range len).map F, by simp, by simp; omega, fun j s hs => ?_⟩
    obtain ⟨hj, rfl⟩ := got_of hs
    exact ⟨a, rfl, hF j hj⟩
theorem task_of {fuel : Nat} {cs : List Value} {x : DataW H × List MemPlace} (h : DataW.trod enc Tryz.prog w base sp held fuel 46 cs = some x) : ∃ (t : S.TM) (p : Option Addr) (c : Nat), cs = S.taskC t p c ∧ t.exprs.length ≤ 9223372036854775807 ∧ S.AtS w p t.exprs := by
  obtain ⟨xs, n, rfl, -, hl, hxl, hall⟩ := DataW.trod_struct Tryz.underlying46 h
  rw [cTask] at hl
  have hxl : xs.length = 4 := hxl
  match cs, hl, xs, hxl with
  | [v0, v1, v2, v3], _, [y0, y1, y2, y3], _ =>
    have g0 : DataW.trod enc Tryz.prog w base sp held n 9 (List.take (Tryz.prog.cellsOf 9) (List.drop 0 [v0, v1, v2, v3])) = some y0 := hall 0 _ rfl
    have g1 : DataW.trod enc Tryz.prog w base sp held n 3 (List.take (Tryz.prog.cellsOf 3) (List.drop 1 [v0, v1, v2, v3])) = some y1 := hall 1 _ rfl
    have g2 : DataW.trod enc Tryz.prog w base sp held n 3 (List.take (Tryz.prog.cellsOf 3) (List.drop 2 [v0, v1, v2, v3])) = some y2 := hall 2 _ rfl
    have g3 : DataW.trod enc Tryz.prog w base sp held n 44 (List.take (Tryz.prog.cellsOf 44) (List.drop 3 [v0, v1, v2, v3])) = some y3 := hall 3 _ rfl
    rw [cStr] at g0
    rw [cInt] at g1 g2
    rw [cStrs] at g3
    simp only [List.drop_zero, List.drop_succ_cons, List.take_succ_cons, List.take_zero] at g0 g1 g2 g3
    obtain ⟨s, e0, -, -⟩ := DataW.trod_string Tryz.underlying9 g0
    obtain ⟨k, e1, -, -⟩ := DataW.trod_int Tryz.underlying3 g1
    obtain ⟨m, e2, -, -⟩ := DataW.trod_int Tryz.underlying3 g2
    obtain ⟨p, c, l, e3, hl, hA⟩ := exprs_of g3
    cases e0; cases e1; cases e2; cases e3
    exact ⟨⟨s.data.toList, k, m, l⟩, p, c, rfl, hl, hA⟩
theorem edge_of {fuel : Nat} {cs : List Value} {x : DataW H × List MemPlace} (h : DataW.trod enc Tryz.prog w base sp held fuel 39 cs = some x) : ∃ e : S.EM, cs = S.edgeC e := by
  obtain ⟨xs, n, rfl, -, hl, hxl, hall⟩ := DataW.trod_struct Tryz.underlying39 h
  rw [cEdge] at hl
  have hxl : xs.length = 4 := hxl
  match cs, hl, xs, hxl with
  | [v0, v1, v2, v3], _, [y0, y1, y2, y3], _ =>
    have g0 : DataW.trod enc Tryz.prog w base sp held n 3 (List.take (Tryz.prog.cellsOf 3) (List.drop 0 [v0, v1, v2, v3])) = some y0 := hall 0 _ rfl
    have g1 : DataW.trod enc Tryz.prog w base sp held n 3 (List.take (Tryz.prog.cellsOf 3) (List.drop 1 [v0, v1, v2, v3])) = some y1 := hall 1 _ rfl
    have g2 : DataW.trod enc Tryz.prog w base sp held n 3 (List.take (Tryz.prog.cellsOf 3) (List.drop 2 [v0, v1, v2, v3])) = some y2 := hall 2 _ rfl
    have g3 : DataW.trod enc Tryz.prog w base sp held n 3 (List.take (Tryz.prog.cellsOf 3) (List.drop 3 [v0, v1, v2, v3])) = some y3 := hall 3 _ rfl
    rw [cInt] at g0 g1 g2 g3
    simp only [List.drop_zero, List.drop_succ_cons, List.take_succ_cons, List.take_zero] at g0 g1 g2 g3
    obtain ⟨a, e0, -, -⟩ := DataW.trod_int Tryz.underlying3 g0
    obtain ⟨b, e1, -, -⟩ := DataW.trod_int Tryz.underlying3 g1
    obtain ⟨c, e2, -, -⟩ := DataW.trod_int Tryz.underlying3 g2
    obtain ⟨d, e3, -, -⟩ := DataW.trod_int Tryz.underlying3 g3
    cases e0; cases e1; cases e2; cases e3
    exact ⟨⟨a, b, c, d⟩, rfl⟩
abbrev TaskAt (w : World) (a : Addr) (t : S.TM) : Prop := w.cell? a = some (.string (Tr.bytesL t.name)) ∧ w.cell? (a.add 1) = some (.int .i64 t.kind) ∧ w.cell? (a.add 2) = some (.int .i64 t.num) ∧
    ∃ xp xc, w.cell? (a.add 3) = some (.slice xp t.exprs.length xc) ∧ t.exprs.length ≤ 9223372036854775807 ∧ S.AtS w xp t.exprs
theorem tasks_of {fuel : Nat} {cs : List Value} {x : DataW H × List MemPlace} (h : DataW.trod enc Tryz.prog w base sp held fuel 22 cs = some x) : ∃ (p : Option Addr) (c : Nat) (l : List S.TM), cs = [.slice p l.length c] ∧ l.length ≤ 9223372036854775807 ∧
    ∀ (i : Nat) (t : S.TM), l[i]? = some t → ∃ ta, p = some ta ∧ TaskAt w (ta.add (i * 4)) t := by
  have hm : maxLen = 9223372036854775807 := by decide
  rcases DataW.trod_slice Tryz.underlying22 h with ⟨rfl, -⟩ | ⟨a, len, cap, el, rs, m, rfl, rfl, -, -, hlc, hcap, hel, hget, -, -⟩
  · exact ⟨none, 0, [], rfl, by simp, fun j s h => by simp at h⟩
  · have each : ∀ i, ∃ t : S.TM, i < len → TaskAt w (a.add (i * 4)) t := by
      intro i
      by_cases hi : i < len
      · have h1 := hget i hi
        rw [cTask, List.getElem?_eq_getElem (by omega)] at h1
        obtain ⟨cs', hc', ht'⟩ := Option.bind_eq_some_iff.1 h1
        obtain ⟨t, p, c, rfl, hl, hA⟩ := task_of ht'
        obtain ⟨_, _, hcc⟩ := World.cells?_some hc'
        have c0 := hcc 0 (by omega)
        rw [show (a.add (i * 4)).add 0 = a.add (i * 4) by simp [Addr.add]] at c0
        exact ⟨t, fun _ => ⟨c0, hcc 1 (by omega), hcc 2 (by omega), p, c, hcc 3 (by omega), hl, hA⟩⟩
      · exact ⟨⟨[], 0, 0, []⟩, fun h => absurd h hi⟩
    obtain ⟨F, hF⟩ : ∃ F : Nat → S.TM, ∀ i, i < len → TaskAt w (a.add (i * 4)) (F i) := ⟨fun i => (each i).choose, fun i => (each i).choose_spec⟩
    refine ⟨some a, cap, (List.range len).map F, by simp, by simp; omega, fun j s hs => ?_⟩
    obtain ⟨hj, rfl⟩ := got_of hs
    exact ⟨a, rfl, hF j hj⟩
abbrev EdgeAt (w : World) (a : Addr) (e : S.EM) : Prop := w.cell? a = some (.int .i64 e.frm) ∧ w.cell? (a.add 1) = some (.int .i64 e.out) ∧ w.cell? (a.add 2) = some (.int .i64 e.to) ∧ w.cell? (a.add 3) = some (.int .i64 e.inn)
theorem edges_of {fuel : Nat} {cs : List Value} {x : DataW H × List MemPlace} (h : DataW.trod enc Tryz.prog w base sp held fuel 23 cs = some x) : ∃ (p : Option Addr) (c : Nat) (l : List S.EM), cs = [.slice p l.length c] ∧ l.length ≤ 9223372036854775807 ∧
    ∀ (i : Nat) (t : S.EM), l[i]? = some t → ∃ ta, p = some ta ∧ EdgeAt w (ta.add (i * 4)) t := by
  have hm : maxLen = 9223372036854775807 := by decide
  rcases DataW.trod_slice Tryz.underlying23 h with ⟨rfl, -⟩ | ⟨a, len, cap, el, rs, m, rfl, rfl, -, -, hlc, hcap, hel, hget, -, -⟩
  · exact ⟨none, 0, [], rfl, by simp, fun j s h => by simp at h⟩
  · have each : ∀ i, ∃ t : S.EM, i < len → EdgeAt w (a.add (i * 4)) t := by
      intro i
      by_cases hi : i < len
      · have h1 := hget i hi
        rw [cEdge, List.getElem?_eq_getElem (by omega)] at h1
        obtain ⟨cs', hc', ht'⟩ := Option.bind_eq_some_iff.1 h1
        obtain ⟨t, rfl⟩ := edge_of ht'
        obtain ⟨_, _, hcc⟩ := World.cells?_some hc'
        have c0 := hcc 0 (by omega)
        rw [show (a.add (i * 4)).add 0 = a.add (i * 4) by simp [Addr.add]] at c0
        exact ⟨t, fun _ => ⟨c0, hcc 1 (by omega), hcc 2 (by omega), hcc 3 (by omega)⟩⟩
      · exact ⟨⟨0, 0, 0, 0⟩, fun h => absurd h hi⟩
    obtain ⟨F, hF⟩ : ∃ F : Nat → S.EM, ∀ i, i < len → EdgeAt w (a.add (i * 4)) (F i) := ⟨fun i => (each i).choose, fun i => (each i).choose_spec⟩
    refine ⟨some a, cap, (List.range len).map F, by simp, by simp; omega, fun j s hs => ?_⟩
    obtain ⟨hj, rfl⟩ := got_of hs
    exact ⟨a, rfl, hF j hj⟩
theorem plan_of {fuel : Nat} {cs : List Value} {x : DataW H × List MemPlace} (h : DataW.trod enc Tryz.prog w base sp held fuel 25 cs = some x) : ∃ (p : S.PM) (tp : Option Addr) (tc : Nat) (ep : Option Addr) (ec : Nat), cs = S.planC p tp tc ep ec ∧ S.IsP w tp ep p := by
  obtain ⟨xs, n, rfl, -, hl, hxl, hall⟩ := DataW.trod_struct Tryz.underlying25 h
  rw [cPlan] at hl
  have hxl : xs.length = 3 := hxl
  match cs, hl, xs, hxl with
  | [v0, v1, v2], _, [y0, y1, y2], _ =>
    have g0 : DataW.trod enc Tryz.prog w base sp held n 3 (List.take (Tryz.prog.cellsOf 3) (List.drop 0 [v0, v1, v2])) = some y0 := hall 0 _ rfl
    have g1 : DataW.trod enc Tryz.prog w base sp held n 22 (List.take (Tryz.prog.cellsOf 22) (List.drop 1 [v0, v1, v2])) = some y1 := hall 1 _ rfl
    have g2 : DataW.trod enc Tryz.prog w base sp held n 23 (List.take (Tryz.prog.cellsOf 23) (List.drop 2 [v0, v1, v2])) = some y2 := hall 2 _ rfl
    rw [cInt] at g0
    rw [cTasks] at g1
    rw [cEdges] at g2
    simp only [List.drop_zero, List.drop_succ_cons, List.take_succ_cons, List.take_zero] at g0 g1 g2
    obtain ⟨k, e0, -, -⟩ := DataW.trod_int Tryz.underlying3 g0
    obtain ⟨tp, tc, lt, e1, ht, hT⟩ := tasks_of g1
    obtain ⟨ep, ec, le, e2, he, hE⟩ := edges_of g2
    cases e0; cases e1; cases e2
    exact ⟨⟨k, lt, le⟩, tp, tc, ep, ec, rfl, ht, he, hT, hE⟩
theorem open_plan {r : Reach} {b0 : Nat} {v : Value} {d : DataW H} {ps : List MemPlace} (hv : Value.okWide Tryz.prog w r b0 25 v) (h : DataW.Trod enc Tryz.prog w base sp held 25 v d ps) :
    ∃ (p : S.PM) (tp : Option Addr) (tc : Nat) (ep : Option Addr) (ec : Nat), v = S.planV p tp tc ep ec ∧ S.IsP w tp ep p := by
  obtain ⟨cs, rfl, _⟩ := okWide_struct Tryz.underlying25 hv
  obtain ⟨fuel, h⟩ := h
  obtain ⟨p, tp, tc, ep, ec, e, hp⟩ := plan_of h
  refine ⟨p, tp, tc, ep, ec, ?_, hp⟩
  have e : cs.toList = S.planC p tp tc ep ec := e
  have : cs = (S.planC p tp tc ep ec).toArray := by rw [← e]
  rw [this]
end
end Go.Proofs.YtkebljkdkaagfaaGreatDoor
