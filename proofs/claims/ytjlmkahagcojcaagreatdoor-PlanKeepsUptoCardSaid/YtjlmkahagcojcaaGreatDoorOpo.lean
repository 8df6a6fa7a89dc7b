/- What comes in, opened: ints, steps, values, records; the listed variables. -/
import Derived.Test.YtjlmkahagcojcaaGreatDoorPost
import Derived.Test.YtjlmkahagcojcaaGreatDoorOpb
import Derived.Test.YtjlmkahagcojcaaGreatDoorTpy
import Derived.Shelf.Vars
import Derived.ChangeMaps5
import Derived.Lib.LaidU8
import Derived.Lib.SmallJoins
import Derived.Deep.DeepWitnessRowRef
import Derived.SizedLaws
namespace Go.Proofs.YtjlmkahagcojcaaGreatDoor
open Go Go.ChangeShapes Go.WideShapes Go.ChangeAt Go.RowKit
set_option maxRecDepth 100000
theorem own : ownKnob Tryz.prog.godebug = none := by kernel_rfl
theorem rowInt : Tryz.prog.readableRec tInt = true ∧ tInt < Tryz.prog.types.size := ⟨by kernel_rfl, of_decide_eq_true (by kernel_rfl)⟩
theorem rowStr : Tryz.prog.readableRec 9 = true ∧ 9 < Tryz.prog.types.size := ⟨by kernel_rfl, of_decide_eq_true (by kernel_rfl)⟩
/-! ### the program's own variables -/
def stepsD : DataW Unit := .agg (stepsL.map fun x => .agg [.lit (.string x.1), .lit (.int .i64 x.2)])
theorem steps_is : (Rows.laid_eddy_plan_steps : DataW Unit) = stepsD := by kernel_rfl
theorem gS : Tryz.prog.globalNamed "eddy/plan.steps" = some 0 := by kernel_rfl
theorem gST : (Tryz.prog.globals[0]?).map (·.type) = some 130 := by kernel_rfl
theorem cStep : Tryz.prog.cellsOf 129 = 2 := by kernel_rfl
theorem cStr : Tryz.prog.cellsOf 9 = 1 := by kernel_rfl
theorem cInt : Tryz.prog.cellsOf tInt = 1 := by kernel_rfl
theorem step_of {w : World} {fuel : Nat} {cs : List Value} {x : List UInt8 × Int} {p : List MemPlace} (h : DataW.trod (fun _ => ()) Tryz.prog w 0 (fun _ => true) false fuel 129 cs = some (.agg [.lit (.string x.1), .lit (.int .i64 x.2)], p)) : cs = [.string (Tr.bytesL x.1), .int .i64 x.2] := by
  obtain ⟨xs, n, rfl, hx, hl, hxl, hall⟩ := DataW.trod_struct Tryz.underlying129 h
  rw [cStep] at hl
  have hxl : xs.length = 2 := hxl
  match cs, hl, xs, hxl with
  | [v0, v1], _, [y0, y1], _ =>
    have g0 : DataW.trod (fun _ => ()) Tryz.prog w 0 (fun _ => true) false n 9 (List.take (Tryz.prog.cellsOf 9) (List.drop 0 [v0, v1])) = some y0 := hall 0 _ rfl
    have g1 : DataW.trod (fun _ => ()) Tryz.prog w 0 (fun _ => true) false n tInt (List.take (Tryz.prog.cellsOf tInt) (List.drop 1 [v0, v1])) = some y1 := hall 1 _ rfl
    rw [cStr] at g0
    rw [cInt] at g1
    simp only [List.drop_zero, List.drop_succ_cons, List.take_succ_cons, List.take_zero] at g0 g1
    obtain ⟨s, e0, rfl, _⟩ := DataW.trod_string Tryz.underlying9 g0
    obtain ⟨z, e1, rfl, _⟩ := DataW.trod_int Tryz.underlying3 g1
    cases e0; cases e1
    simp at hx
    obtain ⟨⟨hx1, hx2⟩, _⟩ := hx
    rw [hx1, hx2]
theorem globalsN : decide (2 < Tryz.prog.globals.size) = true := by kernel_rfl
theorem globN : decide (9 ≤ Tryz.prog.globals.size) = true := by kernel_rfl
theorem last_there : ((begin Tryz.prog (fun _ _ => 0) default).world.heap[9 - 1]?).bind Obj.row? |>.isSome := by kernel_rfl
theorem pow_is : (Rows.laid_internal_strconv_uint64pow10 : DataW Unit) = Lib.tabData .u64 Lib.pow10Tab := by kernel_rfl
theorem gPow : Tryz.prog.globalNamed "internal/strconv.uint64pow10" = some 1 := by kernel_rfl
theorem gPowT : (Tryz.prog.globals[1]?).map (·.type) = some 235 := by kernel_rfl
theorem cellsTab : Tryz.prog.cellsOf 235 = 20 := by kernel_rfl
theorem cellsU64 : Tryz.prog.cellsOf 185 = 1 := by kernel_rfl
theorem glob_of {w : World} (h : Lib.VarReads Tryz.prog w "eddy/plan.steps" stepsD) (h5 : Lib.VarReads Tryz.prog w "internal/strconv.uint64pow10" (Lib.tabData .u64 Lib.pow10Tab)) (hS : w.ShapedOpen Tryz.prog) : Glob w := by
  obtain ⟨g', t', cs, fuel, p, hg', hty', hvar, hd⟩ := h
  obtain rfl := Option.some.inj (gS.symm.trans hg')
  obtain rfl := Option.some.inj (gST.symm.trans hty')
  have hl : stepsL.length = 10 := rfl
  have el : ∀ i x, stepsL[i]? = some x → (cs.toList.drop (i * 2)).take 2 = [.string (Tr.bytesL x.1), .int .i64 x.2] := fun i x hx => by
    have hi : i < 10 := by rw [← hl]; exact (List.getElem?_eq_some_iff.1 hx).1
    obtain ⟨fuel', d, q, hdi, hre⟩ := Lib.array_elem Tryz.underlying130 hd i hi
    rw [List.getElem?_map, hx] at hdi
    cases hdi
    rw [cStep] at hre
    exact step_of hre
  have cell : ∀ i j x v, stepsL[i]? = some x → j < 2 → [Value.string (Tr.bytesL x.1), .int .i64 x.2][j]? = some v → w.cell? ⟨0, i * 2 + j, none⟩ = some v := fun i j x v hx hj hv => by
    have e0 := congrArg (·[j]?) (el i x hx)
    simp only [List.getElem?_take, List.getElem?_drop, if_pos hj] at e0
    rw [World.var?_cell gS hvar (i * 2 + j), ← Array.getElem?_toList, e0]
    exact hv
  refine ⟨fun i x hx => ?_, fun i x hx => cell i 1 x _ hx (by decide) rfl, ?_, ?_, ?_⟩
  · have := cell i 0 x _ hx (by decide) rfl
    rwa [Nat.add_zero] at this
  · exact cell_of_shapedOpen_int hS (of_decide_eq_true globalsN) (t := tInt) (zero := #[.int .i64 0]) (by kernel_rfl) rfl (by kernel_rfl) (by kernel_rfl) Tryz.underlying3
  · obtain ⟨h1, _⟩ := hS
    obtain ⟨⟨z, t⟩, he⟩ := Option.isSome_iff_exists.1 last_there
    obtain ⟨cs, hc, _⟩ := h1 (9 - 1) z t (by have := of_decide_eq_true globN; omega) he
    have h8 : 9 - 1 < w.heap.size := (Array.getElem?_eq_some_iff.1 hc).1
    show 9 ≤ w.heap.size
    omega
  · obtain ⟨g, t, cs, fuel, p, hg, hty, hvar, hd⟩ := h5
    obtain rfl := Option.some.inj (gPow.symm.trans hg)
    obtain rfl := Option.some.inj (gPowT.symm.trans hty)
    have hcs := Lib.cells_of_tab Tryz.underlying235 Tryz.underlying185 cellsU64 cellsTab hd
    unfold Lib.TabIs
    rw [hvar, ← hcs]
/-! ### the steps that come in -/
theorem bulk_one {H : Type} (d : DataW H) : 1 ≤ Rows.uptoBulk d := by
  cases d with
  | lit l => cases l <;> simp [Rows.uptoBulk]
  | nil => simp [Rows.uptoBulk]
  | ptr d => simp [Rows.uptoBulk]
  | slice elems spare => simp [Rows.uptoBulk]
  | agg parts => simp [Rows.uptoBulk]
  | iface t d => simp [Rows.uptoBulk]
  | map entries => simp [Rows.uptoBulk]
  | held h => simp [Rows.uptoBulk]
theorem bulk_part {H : Type} {d : DataW H} {l : List (DataW H)} (h : d ∈ l) : Rows.uptoBulk d ≤ Rows.uptoBulkAll l := by
  induction l with
  | nil => cases h
  | cons x r ih =>
    simp only [Rows.uptoBulkAll]
    rcases List.mem_cons.1 h with rfl | e
    · omega
    · have := ih e; omega
theorem bulk_len {H : Type} (l : List (DataW H)) : l.length ≤ Rows.uptoBulkAll l := by
  induction l with
  | nil => simp
  | cons x r ih => have := bulk_one x; simp only [Rows.uptoBulkAll, List.length_cons]; omega
theorem cellsOp : Tryz.prog.cellsOf tOp = 4 := by kernel_rfl
theorem cellsInts : Tryz.prog.cellsOf tInts = 1 := by kernel_rfl
section
variable {H : Type} {enc : TypeId × Value → H} {w : World} {base : Nat} {sp : Nat → Bool} {held : Bool}
theorem ints_of {fuel : Nat} {cs : List Value} {x : DataW H × List MemPlace} (h : DataW.trod enc Tryz.prog w base sp held fuel tInts cs = some x) : ∃ p n c l, cs = [.slice p n c] ∧ AtI w p n l ∧ l.length ≤ Rows.uptoBulk x.1 := by
  rcases DataW.trod_slice Tryz.underlying36 h with ⟨e3, rfl⟩ | ⟨a, len, cap, el, rs, m, rfl, e3, rfl, -, hlc, hcap, hel, hget, -, -⟩
  · exact ⟨none, 0, 0, [], e3, ⟨rfl, fun h => by omega⟩, by simp⟩
  · have each : ∀ i, ∃ z : Int, i < len → w.cell? (a.add i) = some (.int .i64 z) := by
      intro i
      by_cases hi : i < len
      · have h1 := hget i hi
        rw [cInt, Nat.mul_one, List.getElem?_eq_getElem (by omega)] at h1
        obtain ⟨cs', hc', ht'⟩ := Option.bind_eq_some_iff.1 h1
        obtain ⟨z, rfl, _, _⟩ := DataW.trod_int Tryz.underlying3 ht'
        obtain ⟨_, _, hcc⟩ := World.cells?_some hc'
        have := hcc 0 (by omega)
        rw [show (a.add i).add 0 = a.add i by simp [Addr.add]] at this
        exact ⟨z, fun _ => this⟩
      · exact ⟨0, fun h => absurd h hi⟩
    obtain ⟨F, hF⟩ : ∃ F : Nat → Int, ∀ i, i < len → w.cell? (a.add i) = some (.int .i64 (F i)) := ⟨fun i => (each i).choose, fun i => (each i).choose_spec⟩
    refine ⟨some a, len, cap, (List.range len).map F, e3, ⟨by simp, fun h0 => ?_⟩, ?_⟩
    · have hsp : a.spot = none := by
        have h00 := hF 0 h0
        simpa [Addr.add] using World.cell?_spot h00
      obtain ⟨g, o, spot⟩ := a
      obtain rfl : spot = none := hsp
      refine ⟨g, o, rfl, fun j x hx => ?_⟩
      simp only [List.getElem?_map, Option.map_eq_some_iff] at hx
      obtain ⟨i, hi, rfl⟩ := hx
      have hj : j < len := by
        have := (List.getElem?_eq_some_iff.1 hi).1
        simpa using this
      rw [List.getElem?_range hj] at hi
      cases hi
      have := hF j hj
      rw [addr_add] at this
      exact this
    · have h1 := bulk_len (el.map (·.1))
      simp only [Rows.uptoBulk, List.length_map, List.length_range] at h1 ⊢
      omega
theorem op_of {fuel : Nat} {cs : List Value} {x : DataW H × List MemPlace} (h : DataW.trod enc Tryz.prog w base sp held fuel tOp cs = some x) : ∃ (o : OpM) (p : Option Addr) (n c : Nat), cs = opCells o.kind o.a o.b p n c ∧ AtI w p n o.keep ∧ o.keep.length ≤ Rows.uptoBulk x.1 := by
  obtain ⟨xs, n, rfl, rfl, hl, hxl, hall⟩ := DataW.trod_struct Tryz.underlying38 h
  rw [cellsOp] at hl
  have hxl : xs.length = 4 := hxl
  match cs, hl, xs, hxl with
  | [v0, v1, v2, v3], _, [y0, y1, y2, y3], _ =>
    have g0 : DataW.trod enc Tryz.prog w base sp held n tInt (List.take (Tryz.prog.cellsOf tInt) (List.drop 0 [v0, v1, v2, v3])) = some y0 := hall 0 _ rfl
    have g1 : DataW.trod enc Tryz.prog w base sp held n tInt (List.take (Tryz.prog.cellsOf tInt) (List.drop 1 [v0, v1, v2, v3])) = some y1 := hall 1 _ rfl
    have g2 : DataW.trod enc Tryz.prog w base sp held n tInt (List.take (Tryz.prog.cellsOf tInt) (List.drop 2 [v0, v1, v2, v3])) = some y2 := hall 2 _ rfl
    have g3 : DataW.trod enc Tryz.prog w base sp held n tInts (List.take (Tryz.prog.cellsOf tInts) (List.drop 3 [v0, v1, v2, v3])) = some y3 := hall 3 _ rfl
    rw [cInt] at g0 g1 g2
    rw [cellsInts] at g3
    simp only [List.drop_zero, List.drop_succ_cons, List.take_succ_cons, List.take_zero] at g0 g1 g2 g3
    obtain ⟨k, e0, -, -⟩ := DataW.trod_int Tryz.underlying3 g0
    obtain ⟨a, e1, -, -⟩ := DataW.trod_int Tryz.underlying3 g1
    obtain ⟨b, e2, -, -⟩ := DataW.trod_int Tryz.underlying3 g2
    obtain ⟨p, m, c, l, e3, hA, hB⟩ := ints_of g3
    cases e0; cases e1; cases e2; cases e3
    refine ⟨⟨k, a, b, l⟩, p, m, c, rfl, hA, ?_⟩
    have := bulk_part (d := y3.1) (l := [y0, y1, y2, y3].map (·.1)) (by simp)
    simp only [Rows.uptoBulk]
    omega
theorem ops_of {fuel : Nat} {cs : List Value} {x : DataW H × List MemPlace} (h : DataW.trod enc Tryz.prog w base sp held fuel tOps cs = some x) : ∃ p n c l, cs = [.slice p n c] ∧ AtOps w p n l ∧ l.length ≤ Rows.uptoBulk x.1 ∧ ∀ o ∈ l, o.keep.length ≤ Rows.uptoBulk x.1 := by
  rcases DataW.trod_slice Tryz.underlying22 h with ⟨e3, rfl⟩ | ⟨a, len, cap, el, rs, m, rfl, e3, rfl, -, hlc, hcap, hel, hget, -, -⟩
  · exact ⟨none, 0, 0, [], e3, ⟨rfl, fun h => by omega⟩, by simp, fun o ho => by cases ho⟩
  · have each : ∀ i, ∃ o : OpM, i < len → (∃ kp kn kc, AtI w kp kn o.keep ∧ w.cell? (a.add (i * 4)) = some (.int .i64 o.kind) ∧ w.cell? ((a.add (i * 4)).add 1) = some (.int .i64 o.a) ∧ w.cell? ((a.add (i * 4)).add 2) = some (.int .i64 o.b) ∧ w.cell? ((a.add (i * 4)).add 3) = some (.slice kp kn kc)) ∧ o.keep.length ≤ Rows.uptoBulkAll (el.map (·.1)) := by
      intro i
      by_cases hi : i < len
      · have h1 := hget i hi
        rw [cellsOp, List.getElem?_eq_getElem (by omega)] at h1
        obtain ⟨cs', hc', ht'⟩ := Option.bind_eq_some_iff.1 h1
        obtain ⟨o, p, n, c, rfl, hA, hB⟩ := op_of ht'
        obtain ⟨_, _, hcc⟩ := World.cells?_some hc'
        have c0 := hcc 0 (by omega)
        rw [show (a.add (i * 4)).add 0 = a.add (i * 4) by simp [Addr.add]] at c0
        refine ⟨o, fun _ => ⟨⟨p, n, c, hA, c0, hcc 1 (by omega), hcc 2 (by omega), hcc 3 (by omega)⟩, ?_⟩⟩
        have := bulk_part (d := (el[i]'(by omega)).1) (l := el.map (·.1)) (List.mem_map.2 ⟨_, List.getElem_mem _, rfl⟩)
        omega
      · exact ⟨⟨0, 0, 0, []⟩, fun h => absurd h hi⟩
    obtain ⟨F, hF⟩ : ∃ F : Nat → OpM, ∀ i, i < len → (∃ kp kn kc, AtI w kp kn (F i).keep ∧ w.cell? (a.add (i * 4)) = some (.int .i64 (F i).kind) ∧ w.cell? ((a.add (i * 4)).add 1) = some (.int .i64 (F i).a) ∧ w.cell? ((a.add (i * 4)).add 2) = some (.int .i64 (F i).b) ∧ w.cell? ((a.add (i * 4)).add 3) = some (.slice kp kn kc)) ∧ (F i).keep.length ≤ Rows.uptoBulkAll (el.map (·.1)) := ⟨fun i => (each i).choose, fun i => (each i).choose_spec⟩
    refine ⟨some a, len, cap, (List.range len).map F, e3, ⟨by simp, fun h0 => ?_⟩, ?_, fun o ho => ?_⟩
    · have hsp : a.spot = none := by
        obtain ⟨⟨_, _, _, _, h00, _⟩, _⟩ := hF 0 h0
        simpa [Addr.add] using World.cell?_spot h00
      obtain ⟨g, o, spot⟩ := a
      obtain rfl : spot = none := hsp
      refine ⟨g, o, rfl, fun j x hx => ?_⟩
      simp only [List.getElem?_map, Option.map_eq_some_iff] at hx
      obtain ⟨i, hi, rfl⟩ := hx
      have hj : j < len := by
        have := (List.getElem?_eq_some_iff.1 hi).1
        simpa using this
      rw [List.getElem?_range hj] at hi
      cases hi
      obtain ⟨⟨kp, kn, kc, h1, h2, h3, h4, h5⟩, _⟩ := hF j hj
      simp only [addr_add] at h2 h3 h4 h5
      exact ⟨kp, kn, kc, h1, h2, h3, h4, h5⟩
    · have h1 := bulk_len (el.map (·.1))
      simp only [Rows.uptoBulk, List.length_map, List.length_range] at h1 ⊢
      omega
    · simp only [List.mem_map, List.mem_range] at ho
      obtain ⟨i, hi, rfl⟩ := ho
      have := (hF i hi).2
      simp only [Rows.uptoBulk]
      omega
end
theorem rowOps : Tryz.prog.readableRec tOps = true ∧ tOps < Tryz.prog.types.size := ⟨by kernel_rfl, of_decide_eq_true (by kernel_rfl)⟩
theorem cellsVal : Tryz.prog.cellsOf 52 = 4 := by kernel_rfl
theorem cellsI64 : Tryz.prog.cellsOf 2 = 1 := by kernel_rfl
theorem cellsVals : Tryz.prog.cellsOf 50 = 1 := by kernel_rfl
theorem wf_rng {n : Int} (h : (Lit.int .i64 n).wf = true) : Rng n := by
  have := Go.bounds_i64 h
  unfold Rng; omega
section
variable {H : Type} {enc : TypeId × Value → H} {w : World} {base : Nat} {sp : Nat → Bool} {held : Bool}
theorem RL_of {ad : Addr} : ∀ (l : List VT) (j : Nat), (∀ i x, l[i]? = some x → ∃ p n c, CellsV w (ad.add ((j + i) * 4)) x p n c ∧ IsV w x p n c) → RL w l ad j
  | [], _, _ => trivial
  | x :: r, j, h => by
    simp only [RL]
    refine ⟨?_, RL_of r (j + 1) fun i y hy => ?_⟩
    · obtain ⟨p, n, c, h1, h2⟩ := h 0 x rfl
      exact ⟨p, n, c, h1, h2.cap, h2.big, h2.its⟩
    · have := h (i + 1) y (by simpa using hy)
      rw [show j + 1 + i = j + (i + 1) by omega]
      exact this
theorem FitL_of : ∀ (l : List VT), (∀ x ∈ l, Fit x) → FitL l
  | [], _ => trivial
  | x :: r, h => ⟨h x (.head _), FitL_of r fun y hy => h y (.tail _ hy)⟩
theorem open_cells (k : Nat) : ∀ (fuel : Nat) (cs : List Value) (x : DataW H × List MemPlace), fuel < k → DataW.trod enc Tryz.prog w base sp held fuel 52 cs = some x → ∃ v p n c, cs = cellsV v p n c ∧ IsV w v p n c ∧ Fit v := by
  induction k with
  | zero => intro fuel cs x h; omega
  | succ k ih =>
    intro fuel cs x hk h
    obtain ⟨xs, n, rfl, -, hl, hxl, hall⟩ := DataW.trod_struct Tryz.underlying52 h
    rw [cellsVal] at hl
    have hxl : xs.length = 4 := hxl
    match cs, hl, xs, hxl with
    | [v0, v1, v2, v3], _, [y0, y1, y2, y3], _ =>
      have g0 : DataW.trod enc Tryz.prog w base sp held n tInt (List.take (Tryz.prog.cellsOf tInt) (List.drop 0 [v0, v1, v2, v3])) = some y0 := hall 0 _ rfl
      have g1 : DataW.trod enc Tryz.prog w base sp held n 2 (List.take (Tryz.prog.cellsOf 2) (List.drop 1 [v0, v1, v2, v3])) = some y1 := hall 1 _ rfl
      have g2 : DataW.trod enc Tryz.prog w base sp held n 9 (List.take (Tryz.prog.cellsOf 9) (List.drop 2 [v0, v1, v2, v3])) = some y2 := hall 2 _ rfl
      have g3 : DataW.trod enc Tryz.prog w base sp held n 50 (List.take (Tryz.prog.cellsOf 50) (List.drop 3 [v0, v1, v2, v3])) = some y3 := hall 3 _ rfl
      rw [cInt] at g0
      rw [cellsI64] at g1
      rw [cStr] at g2
      rw [cellsVals] at g3
      simp only [List.drop_zero, List.drop_succ_cons, List.take_succ_cons, List.take_zero] at g0 g1 g2 g3
      obtain ⟨kd, e0, -, w0⟩ := DataW.trod_int Tryz.underlying3 g0
      obtain ⟨it, e1, -, w1⟩ := DataW.trod_int Tryz.underlying2 g1
      obtain ⟨s, e2, -, w2⟩ := DataW.trod_string Tryz.underlying9 g2
      cases e0; cases e1; cases e2
      have hm : maxLen = 9223372036854775807 := by decide
      rcases DataW.trod_slice Tryz.underlying50 g3 with ⟨e3, -⟩ | ⟨a, len, cap, el, rs, m, rfl, e3, -, -, hlc, hcap, hel, hget, -, -⟩
      · cases e3
        refine ⟨.mk kd it s [], none, 0, 0, rfl, ⟨by omega, by omega, ?_⟩, ?_⟩
        · rw [RIt_def]; exact ⟨rfl, fun h => by omega⟩
        · rw [Fit_def]; exact ⟨wf_rng w0, wf_rng w1, by show s.size ≤ _; omega, trivial⟩
      · cases e3
        have each : ∀ i, ∃ v : VT, i < len → ∃ p n c, CellsV w (a.add (i * 4)) v p n c ∧ IsV w v p n c ∧ Fit v := by
          intro i
          by_cases hi : i < len
          · have h1 := hget i hi
            rw [cellsVal, List.getElem?_eq_getElem (by omega)] at h1
            obtain ⟨cs', hc', ht'⟩ := Option.bind_eq_some_iff.1 h1
            obtain ⟨v, p, n, c, rfl, hv, hf⟩ := ih m cs' _ (by omega) ht'
            obtain ⟨_, _, hcc⟩ := World.cells?_some hc'
            refine ⟨v, fun _ => ⟨p, n, c, ⟨?_, hcc 1 (by omega), hcc 2 (by omega), hcc 3 (by omega)⟩, hv, hf⟩⟩
            have := hcc 0 (by omega)
            rw [show (a.add (i * 4)).add 0 = a.add (i * 4) by simp [Addr.add]] at this
            exact this
          · exact ⟨noneV, fun h => absurd h hi⟩
        let F : Nat → VT := fun i => (each i).choose
        have hF : ∀ i, i < len → ∃ p n c, CellsV w (a.add (i * 4)) (F i) p n c ∧ IsV w (F i) p n c ∧ Fit (F i) := fun i => (each i).choose_spec
        have hget' : ∀ i x, ((List.range len).map F)[i]? = some x → i < len ∧ x = F i := fun i x hx => by
          simp only [List.getElem?_map, Option.map_eq_some_iff] at hx
          obtain ⟨j, hj, rfl⟩ := hx
          have hi : i < len := by
            have := (List.getElem?_eq_some_iff.1 hj).1
            simpa using this
          rw [List.getElem?_range hi] at hj
          cases hj
          exact ⟨hi, rfl⟩
        refine ⟨.mk kd it s ((List.range len).map F), some a, len, cap, rfl, ⟨hlc, by omega, ?_⟩, ?_⟩
        · rw [RIt_def]
          refine ⟨by simp [VT.items], fun _ => ⟨a, rfl, RL_of _ 0 fun i x hx => ?_⟩⟩
          obtain ⟨hi, rfl⟩ := hget' i x hx
          obtain ⟨p, n, c, h1, h2, _⟩ := hF i hi
          rw [Nat.zero_add]
          exact ⟨p, n, c, h1, h2⟩
        · rw [Fit_def]
          refine ⟨wf_rng w0, wf_rng w1, by show s.size ≤ _; omega, FitL_of _ fun x hx => ?_⟩
          obtain ⟨i, hx'⟩ := List.mem_iff_getElem?.1 hx
          obtain ⟨hi, rfl⟩ := hget' i x hx'
          obtain ⟨p, n, c, _, _, h3⟩ := hF i hi
          exact h3
theorem cellsRec : Tryz.prog.cellsOf 54 = 6 := by kernel_rfl
theorem rec_of {fuel : Nat} {cs : List Value} {x : DataW H × List MemPlace} (h : DataW.trod enc Tryz.prog w base sp held fuel 54 cs = some x) : ∃ (r : V.RecM) (vq : Option Addr) (vn vc : Nat) (kp : Option Addr) (kn kc : Nat),
    cs = [.string r.key, .int .i64 r.val.kind, .int .i64 r.val.int, .string r.val.text, .slice vq vn vc, .slice kp kn kc] ∧ IsV w r.val vq vn vc ∧ AtI w kp kn r.loops ∧ Fit r.val ∧ r.loops.length ≤ Rows.uptoBulk x.1 := by
  obtain ⟨xs, n, rfl, rfl, hl, hxl, hall⟩ := DataW.trod_struct Tryz.underlying54 h
  rw [cellsRec] at hl
  have hxl : xs.length = 3 := hxl
  match cs, hl, xs, hxl with
  | [v0, v1, v2, v3, v4, v5], _, [y0, y1, y2], _ =>
    have g0 : DataW.trod enc Tryz.prog w base sp held n 9 (List.take (Tryz.prog.cellsOf 9) (List.drop 0 [v0, v1, v2, v3, v4, v5])) = some y0 := hall 0 _ rfl
    have g1 : DataW.trod enc Tryz.prog w base sp held n 52 (List.take (Tryz.prog.cellsOf 52) (List.drop 1 [v0, v1, v2, v3, v4, v5])) = some y1 := hall 1 _ rfl
    have g2 : DataW.trod enc Tryz.prog w base sp held n tInts (List.take (Tryz.prog.cellsOf tInts) (List.drop 5 [v0, v1, v2, v3, v4, v5])) = some y2 := hall 2 _ rfl
    rw [cStr] at g0
    rw [cellsVal] at g1
    rw [cellsInts] at g2
    simp only [List.drop_zero, List.drop_succ_cons, List.take_succ_cons, List.take_zero] at g0 g1 g2
    obtain ⟨s, e0, -, -⟩ := DataW.trod_string Tryz.underlying9 g0
    obtain ⟨v, vq, vn, vc, e1, hI, hF⟩ := open_cells _ n _ _ (Nat.lt_succ_self _) g1
    obtain ⟨kp, kn, kc, l, e2, hA, hB⟩ := ints_of g2
    cases e0; cases e1; cases e2
    refine ⟨⟨s, v, l⟩, vq, vn, vc, kp, kn, kc, rfl, hI, hA, hF, ?_⟩
    have := bulk_part (d := y2.1) (l := [y0, y1, y2].map (·.1)) (by simp)
    simp only [Rows.uptoBulk]
    omega
theorem recs_of {fuel : Nat} {cs : List Value} {x : DataW H × List MemPlace} (h : DataW.trod enc Tryz.prog w base sp held fuel 40 cs = some x) : ∃ p n c l, cs = [.slice p n c] ∧ V.AtT w p n l ∧ l.length ≤ Rows.uptoBulk x.1 ∧ ∀ r ∈ l, Fit r.val ∧ r.loops.length ≤ Rows.uptoBulk x.1 := by
  rcases DataW.trod_slice Tryz.underlying40 h with ⟨e3, rfl⟩ | ⟨a, len, cap, el, rs, m, rfl, e3, rfl, -, hlc, hcap, hel, hget, -, -⟩
  · exact ⟨none, 0, 0, [], e3, ⟨rfl, fun h => by omega⟩, by simp, fun o ho => by cases ho⟩
  · have each : ∀ i, ∃ r : V.RecM, i < len → (∃ vq vn vc kp kn kc, w.cell? (a.add (i * 6)) = some (.string r.key) ∧ CellsV w ((a.add (i * 6)).add 1) r.val vq vn vc ∧ w.cell? ((a.add (i * 6)).add 5) = some (.slice kp kn kc) ∧ IsV w r.val vq vn vc ∧ AtI w kp kn r.loops) ∧ Fit r.val ∧ r.loops.length ≤ Rows.uptoBulkAll (el.map (·.1)) := by
      intro i
      by_cases hi : i < len
      · have h1 := hget i hi
        rw [cellsRec, List.getElem?_eq_getElem (by omega)] at h1
        obtain ⟨cs', hc', ht'⟩ := Option.bind_eq_some_iff.1 h1
        obtain ⟨r, vq, vn, vc, kp, kn, kc, rfl, hI, hA, hF, hB⟩ := rec_of ht'
        obtain ⟨_, _, hcc⟩ := World.cells?_some hc'
        have c0 := hcc 0 (by omega)
        rw [show (a.add (i * 6)).add 0 = a.add (i * 6) by simp [Addr.add]] at c0
        refine ⟨r, fun _ => ⟨⟨vq, vn, vc, kp, kn, kc, c0, ⟨hcc 1 (by omega), ?_, ?_, ?_⟩, hcc 5 (by omega), hI, hA⟩, hF, ?_⟩⟩
        · rw [V.add_add]; exact hcc 2 (by omega)
        · rw [V.add_add]; exact hcc 3 (by omega)
        · rw [V.add_add]; exact hcc 4 (by omega)
        · have := bulk_part (d := (el[i]'(by omega)).1) (l := el.map (·.1)) (List.mem_map.2 ⟨_, List.getElem_mem _, rfl⟩)
          omega
      · exact ⟨⟨Tr.bytesL [], noneV, []⟩, fun h => absurd h hi⟩
    refine ⟨some a, len, cap, (List.range len).map (fun i => (each i).choose), e3, ⟨by simp, fun h0 => ⟨a, rfl, fun j x hx => ?_⟩⟩, ?_, fun o ho => ?_⟩
    · simp only [List.getElem?_map, Option.map_eq_some_iff] at hx
      obtain ⟨i, hi, rfl⟩ := hx
      have hj : j < len := by
        have := (List.getElem?_eq_some_iff.1 hi).1
        simpa using this
      rw [List.getElem?_range hj] at hi
      cases hi
      exact ((each j).choose_spec hj).1
    · have h1 := bulk_len (el.map (·.1))
      simp only [Rows.uptoBulk, List.length_map, List.length_range] at h1 ⊢
      omega
    · simp only [List.mem_map, List.mem_range] at ho
      obtain ⟨i, hi, rfl⟩ := ho
      obtain ⟨_, h1, h2⟩ := (each i).choose_spec hi
      refine ⟨h1, ?_⟩
      simp only [Rows.uptoBulk]
      omega
end
theorem rowRecs : Tryz.prog.readableRec 40 = true ∧ 40 < Tryz.prog.types.size := ⟨by kernel_rfl, of_decide_eq_true (by kernel_rfl)⟩
theorem u8extra : U8Extra Tryz.prog Tryz.lays260_ren := ⟨by kernel_rfl, by kernel_rfl, by kernel_rfl, by kernel_rfl, by kernel_rfl, by kernel_rfl, by kernel_rfl⟩
theorem first_is : Rows.laid_unicode_utf8_first = Lib.firstData := by kernel_rfl
theorem accept_is : (Rows.laid_unicode_utf8_acceptRanges : DataW Unit) = Lib.acceptData := by kernel_rfl
theorem tabs_of {w : World} (h3 : Lib.VarReads Tryz.prog w "unicode/utf8.first" Lib.firstData) (h4 : Lib.VarReads Tryz.prog w "unicode/utf8.acceptRanges" Lib.acceptData) (G : Glob w) : Tabs w := ⟨utf8Tabs_of_reads Tryz.lays260 u8extra h3 h4, G.pow⟩
theorem gRange : Tryz.prog.globalNamed "strconv.ErrRange" = some 8 := by kernel_rfl
theorem gRangeT : (Tryz.prog.globals[8]?).map (·.type) = some 24 := by kernel_rfl
theorem ev_of {w : World} {d : DataW Unit} (h : Lib.VarReads Tryz.prog w "strconv.ErrRange" (.iface "*errors.errorString" d)) : V.Ev w := by
  obtain ⟨g, t, cs, fuel, p, hg, hty, hvar, hd⟩ := h
  obtain rfl := Option.some.inj (gRange.symm.trans hg)
  obtain rfl := Option.some.inj (gRangeT.symm.trans hty)
  have hc0 := World.var?_cell hg hvar 0
  rw [← Array.getElem?_toList] at hc0
  cases fuel with
  | zero => simp [DataW.trod] at hd
  | succ fuel =>
    simp only [DataW.trod, Tryz.underlying24] at hd
    split at hd <;> simp_all
    exact ⟨_, _, hc0⟩
end Go.Proofs.YtjlmkahagcojcaaGreatDoor
