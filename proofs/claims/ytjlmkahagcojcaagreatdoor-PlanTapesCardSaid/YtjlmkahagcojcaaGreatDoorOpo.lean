/- What comes in, opened: ints, steps, values, records; the listed variables. -/
import Derived.Test.YtjlmkahagcojcaaGreatDoorPost
import Derived.Test.YtjlmkahagcojcaaGreatDoorSup
import Derived.Test.YtjlmkahagcojcaaGreatDoorTpy
import Derived.Shelf.Vars
import Derived.ChangeMaps5
import Derived.Lib.LaidU8
import Derived.Lib.SmallJoins
import Derived.Deep.DeepWitnessRowRef
import Derived.SizedLaws
namespace Go.Proofs.YtjlmkahagcojcaaGreatDoor
open Go Go.ChangeShapes Go.WideShapes Go.ChangeAt Go.RowKit
set_option maxRecDepth 100000
theorem own : ownKnob Tryz.prog.godebug = none := by kernel_rfl
theorem rowStr : Tryz.prog.readableRec 9 = true ∧ 9 < Tryz.prog.types.size := ⟨by kernel_rfl, of_decide_eq_true (by kernel_rfl)⟩
/-! ### the program's own variables -/
theorem cStr : Tryz.prog.cellsOf 9 = 1 := by kernel_rfl
theorem cInt : Tryz.prog.cellsOf tInt = 1 := by kernel_rfl
theorem globalsN : decide (2 < Tryz.prog.globals.size) = true := by kernel_rfl
theorem globN : decide (9 ≤ Tryz.prog.globals.size) = true := by kernel_rfl
theorem last_there : ((begin Tryz.prog (fun _ _ => 0) default).world.heap[9 - 1]?).bind Obj.row? |>.isSome := by kernel_rfl
theorem pow_is : (Rows.laid_internal_strconv_uint64pow10 : DataW Unit) = Lib.tabData .u64 Lib.pow10Tab := by kernel_rfl
theorem gPow : Tryz.prog.globalNamed "internal/strconv.uint64pow10" = some 1 := by kernel_rfl
theorem gPowT : (Tryz.prog.globals[1]?).map (·.type) = some 235 := by kernel_rfl
theorem cellsTab : Tryz.prog.cellsOf 235 = 20 := by kernel_rfl
theorem cellsU64 : Tryz.prog.cellsOf 185 = 1 := by kernel_rfl
/-! ### the steps that come in -/
theorem bulk_one {H : Type} (d : DataW H) : 1 ≤ Rows.uptoBulk d := by
  cases d with
  | lit l => cases l <;> simp [Rows.uptoBulk]
  | nil => simp [Rows.uptoBulk]
  | ptr d => simp [Rows.uptoBulk]
  | slice elems spare => simp [Rows.uptoBulk]
  | agg parts => simp [Rows.uptoBulk]
  | iface t d => simp [Rows.uptoBulk]
  | map entries => simp [Rows.uptoBulk]
  | held h => simp [Rows.uptoBulk]
theorem bulk_len {H : Type} (l : List (DataW H)) : l.length ≤ Rows.uptoBulkAll l := by
  induction l with
  | nil => simp
  | cons x r ih => have := bulk_one x; simp only [Rows.uptoBulkAll, List.length_cons]; omega
theorem cellsInts : Tryz.prog.cellsOf tInts = 1 := by kernel_rfl
section
variable {H : Type} {enc : TypeId × Value → H} {w : World} {base : Nat} {sp : Nat → Bool} {held : Bool}
theorem ints_of {fuel : Nat} {cs : List Value} {x : DataW H × List MemPlace} (h : DataW.trod enc Tryz.prog w base sp held fuel tInts cs = some x) : ∃ p n c l, cs = [.slice p n c] ∧ AtI w p n l ∧ l.length ≤ Rows.uptoBulk x.1 := by
  rcases DataW.trod_slice Tryz.underlying36 h with ⟨e3, rfl⟩ | ⟨a, len, cap, el, rs, m, rfl, e3, rfl, -, hlc, hcap, hel, hget, -, -⟩
  · exact ⟨none, 0, 0, [], e3, ⟨rfl, fun h => by omega⟩, by simp⟩
  · have each : ∀ i, ∃ z : Int, i < len → w.cell? (a.add i) = some (.int .i64 z) := by
      intro i
      by_cases hi : i < len
      · have h1 := hget i hi
        rw [cInt, Nat.mul_one, List.getElem?_eq_getElem (by omega)] at h1
        obtain ⟨cs', hc', ht'⟩ := Option.bind_eq_some_iff.1 h1
        obtain ⟨z, rfl, _, _⟩ := DataW.trod_int Tryz.underlying3 ht'
        obtain ⟨_, _, hcc⟩ := World.cells?_some hc'
        have := hcc 0 (by omega)
        rw [show (a.add i).add 0 = a.add i by simp [Addr.add]] at this
        exact ⟨z, fun _ => this⟩
      · exact ⟨0, fun h => absurd h hi⟩
    obtain ⟨F, hF⟩ : ∃ F : Nat → Int, ∀ i, i < len → w.cell? (a.add i) = some (.int .i64 (F i)) := ⟨fun i => (each i).choose, fun i => (each i).choose_spec⟩
    refine ⟨some a, len, cap, (List.range len).map F, e3, ⟨by simp, fun h0 => ?_⟩, ?_⟩
    · have hsp : a.spot = none := by
        have h00 := hF 0 h0
        simpa [Addr.add] using World.cell?_spot h00
      obtain ⟨g, o, spot⟩ := a
      obtain rfl : spot = none := hsp
      refine ⟨g, o, rfl, fun j x hx => ?_⟩
      simp only [List.getElem?_map, Option.map_eq_some_iff] at hx
      obtain ⟨i, hi, rfl⟩ := hx
      have hj : j < len := by
        have := (List.getElem?_eq_some_iff.1 hi).1
        simpa using this
      rw [List.getElem?_range hj] at hi
      cases hi
      have := hF j hj
      rw [addr_add] at this
      exact this
    · have h1 := bulk_len (el.map (·.1))
      simp only [Rows.uptoBulk, List.length_map, List.length_range] at h1 ⊢
      omega
end
theorem cellsVal : Tryz.prog.cellsOf 52 = 4 := by kernel_rfl
theorem cellsI64 : Tryz.prog.cellsOf 2 = 1 := by kernel_rfl
theorem cellsVals : Tryz.prog.cellsOf 50 = 1 := by kernel_rfl
theorem wf_rng {n : Int} (h : (Lit.int .i64 n).wf = true) : Rng n := by
  have := Go.bounds_i64 h
  unfold Rng; omega
section
variable {H : Type} {enc : TypeId × Value → H} {w : World} {base : Nat} {sp : Nat → Bool} {held : Bool}
theorem RL_of {ad : Addr} : ∀ (l : List VT) (j : Nat), (∀ i x, l[i]? = some x → ∃ p n c, CellsV w (ad.add ((j + i) * 4)) x p n c ∧ IsV w x p n c) → RL w l ad j
  | [], _, _ => trivial
  | x :: r, j, h => by
    simp only [RL]
    refine ⟨?_, RL_of r (j + 1) fun i y hy => ?_⟩
    · obtain ⟨p, n, c, h1, h2⟩ := h 0 x rfl
      exact ⟨p, n, c, h1, h2.cap, h2.big, h2.its⟩
    · have := h (i + 1) y (by simpa using hy)
      rw [show j + 1 + i = j + (i + 1) by omega]
      exact this
theorem FitL_of : ∀ (l : List VT), (∀ x ∈ l, Fit x) → FitL l
  | [], _ => trivial
  | x :: r, h => ⟨h x (.head _), FitL_of r fun y hy => h y (.tail _ hy)⟩
theorem open_cells (k : Nat) : ∀ (fuel : Nat) (cs : List Value) (x : DataW H × List MemPlace), fuel < k → DataW.trod enc Tryz.prog w base sp held fuel 52 cs = some x → ∃ v p n c, cs = cellsV v p n c ∧ IsV w v p n c ∧ Fit v := by
  induction k with
  | zero => intro fuel cs x h; omega
  | succ k ih =>
    intro fuel cs x hk h
    obtain ⟨xs, n, rfl, -, hl, hxl, hall⟩ := DataW.trod_struct Tryz.underlying52 h
    rw [cellsVal] at hl
    have hxl : xs.length = 4 := hxl
    match cs, hl, xs, hxl with
    | [v0, v1, v2, v3], _, [y0, y1, y2, y3], _ =>
      have g0 : DataW.trod enc Tryz.prog w base sp held n tInt (List.take (Tryz.prog.cellsOf tInt) (List.drop 0 [v0, v1, v2, v3])) = some y0 := hall 0 _ rfl
      have g1 : DataW.trod enc Tryz.prog w base sp held n 2 (List.take (Tryz.prog.cellsOf 2) (List.drop 1 [v0, v1, v2, v3])) = some y1 := hall 1 _ rfl
      have g2 : DataW.trod enc Tryz.prog w base sp held n 9 (List.take (Tryz.prog.cellsOf 9) (List.drop 2 [v0, v1, v2, v3])) = some y2 := hall 2 _ rfl
      have g3 : DataW.trod enc Tryz.prog w base sp held n 50 (List.take (Tryz.prog.cellsOf 50) (List.drop 3 [v0, v1, v2, v3])) = some y3 := hall 3 _ rfl
      rw [cInt] at g0
      rw [cellsI64] at g1
      rw [cStr] at g2
      rw [cellsVals] at g3
      simp only [List.drop_zero, List.drop_succ_cons, List.take_succ_cons, List.take_zero] at g0 g1 g2 g3
      obtain ⟨kd, e0, -, w0⟩ := DataW.trod_int Tryz.underlying3 g0
      obtain ⟨it, e1, -, w1⟩ := DataW.trod_int Tryz.underlying2 g1
      obtain ⟨s, e2, -, w2⟩ := DataW.trod_string Tryz.underlying9 g2
      cases e0; cases e1; cases e2
      have hm : maxLen = 9223372036854775807 := by decide
      rcases DataW.trod_slice Tryz.underlying50 g3 with ⟨e3, -⟩ | ⟨a, len, cap, el, rs, m, rfl, e3, -, -, hlc, hcap, hel, hget, -, -⟩
      · cases e3
        refine ⟨.mk kd it s [], none, 0, 0, rfl, ⟨by omega, by omega, ?_⟩, ?_⟩
        · rw [RIt_def]; exact ⟨rfl, fun h => by omega⟩
        · rw [Fit_def]; exact ⟨wf_rng w0, wf_rng w1, by show s.size ≤ _; omega, trivial⟩
      · cases e3
        have each : ∀ i, ∃ v : VT, i < len → ∃ p n c, CellsV w (a.add (i * 4)) v p n c ∧ IsV w v p n c ∧ Fit v := by
          intro i
          by_cases hi : i < len
          · have h1 := hget i hi
            rw [cellsVal, List.getElem?_eq_getElem (by omega)] at h1
            obtain ⟨cs', hc', ht'⟩ := Option.bind_eq_some_iff.1 h1
            obtain ⟨v, p, n, c, rfl, hv, hf⟩ := ih m cs' _ (by omega) ht'
            obtain ⟨_, _, hcc⟩ := World.cells?_some hc'
            refine ⟨v, fun _ => ⟨p, n, c, ⟨?_, hcc 1 (by omega), hcc 2 (by omega), hcc 3 (by omega)⟩, hv, hf⟩⟩
            have := hcc 0 (by omega)
            rw [show (a.add (i * 4)).add 0 = a.add (i * 4) by simp [Addr.add]] at this
            exact this
          · exact ⟨noneV, fun h => absurd h hi⟩
        let F : Nat → VT := fun i => (each i).choose
        have hF : ∀ i, i < len → ∃ p n c, CellsV w (a.add (i * 4)) (F i) p n c ∧ IsV w (F i) p n c ∧ Fit (F i) := fun i => (each i).choose_spec
        have hget' : ∀ i x, ((List.range len).map F)[i]? = some x → i < len ∧ x = F i := fun i x hx => by
          simp only [List.getElem?_map, Option.map_eq_some_iff] at hx
          obtain ⟨j, hj, rfl⟩ := hx
          have hi : i < len := by
            have := (List.getElem?_eq_some_iff.1 hj).1
            simpa using this
          rw [List.getElem?_range hi] at hj
          cases hj
          exact ⟨hi, rfl⟩
        refine ⟨.mk kd it s ((List.range len).map F), some a, len, cap, rfl, ⟨hlc, by omega, ?_⟩, ?_⟩
        · rw [RIt_def]
          refine ⟨by simp [VT.items], fun _ => ⟨a, rfl, RL_of _ 0 fun i x hx => ?_⟩⟩
          obtain ⟨hi, rfl⟩ := hget' i x hx
          obtain ⟨p, n, c, h1, h2, _⟩ := hF i hi
          rw [Nat.zero_add]
          exact ⟨p, n, c, h1, h2⟩
        · rw [Fit_def]
          refine ⟨wf_rng w0, wf_rng w1, by show s.size ≤ _; omega, FitL_of _ fun x hx => ?_⟩
          obtain ⟨i, hx'⟩ := List.mem_iff_getElem?.1 hx
          obtain ⟨hi, rfl⟩ := hget' i x hx'
          obtain ⟨p, n, c, _, _, h3⟩ := hF i hi
          exact h3
theorem cellsRec : Tryz.prog.cellsOf 54 = 6 := by kernel_rfl
end
theorem rowRecs : Tryz.prog.readableRec 40 = true ∧ 40 < Tryz.prog.types.size := ⟨by kernel_rfl, of_decide_eq_true (by kernel_rfl)⟩
theorem u8extra : U8Extra Tryz.prog Tryz.lays260_ren := ⟨by kernel_rfl, by kernel_rfl, by kernel_rfl, by kernel_rfl, by kernel_rfl, by kernel_rfl, by kernel_rfl⟩
theorem first_is : Rows.laid_unicode_utf8_first = Lib.firstData := by kernel_rfl
theorem accept_is : (Rows.laid_unicode_utf8_acceptRanges : DataW Unit) = Lib.acceptData := by kernel_rfl
theorem gRange : Tryz.prog.globalNamed "strconv.ErrRange" = some 8 := by kernel_rfl
theorem gRangeT : (Tryz.prog.globals[8]?).map (·.type) = some 24 := by kernel_rfl
theorem ev_of {w : World} {d : DataW Unit} (h : Lib.VarReads Tryz.prog w "strconv.ErrRange" (.iface "*errors.errorString" d)) : V.Ev w := by
  obtain ⟨g, t, cs, fuel, p, hg, hty, hvar, hd⟩ := h
  obtain rfl := Option.some.inj (gRange.symm.trans hg)
  obtain rfl := Option.some.inj (gRangeT.symm.trans hty)
  have hc0 := World.var?_cell hg hvar 0
  rw [← Array.getElem?_toList] at hc0
  cases fuel with
  | zero => simp [DataW.trod] at hd
  | succ fuel =>
    simp only [DataW.trod, Tryz.underlying24] at hd
    split at hd <;> simp_all
    exact ⟨_, _, hc0⟩
end Go.Proofs.YtjlmkahagcojcaaGreatDoor
