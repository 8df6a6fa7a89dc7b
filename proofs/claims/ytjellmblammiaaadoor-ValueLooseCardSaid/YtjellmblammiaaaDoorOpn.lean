/- An argument that is an api.Value, opened: what its reading tells of memory; the tables out of the row's own list. -/
import Derived.Test.YtjellmblammiaaaDoorCards
import Derived.Test.YtjellmblammiaaaDoorTie
import Derived.Test.YtjellmblammiaaaDoorPin
import Derived.WalkKit
import Derived.ProofKit
import Derived.Carry
import Derived.OpenShut
import Derived.Lay
import Derived.Deep.DeepHandedRow
import Derived.Lib.LaidTab
import Derived.Lib.LaidU8
import Derived.Lib.SmallJoins
namespace Go.Proofs.YtjellmblammiaaaDoor
open Go
set_option maxRecDepth 100000
theorem cells24 : Tryd.prog.cellsOf 24 = 4 := by kernel_rfl
theorem cells3 : Tryd.prog.cellsOf 3 = 1 := by kernel_rfl
theorem cells2 : Tryd.prog.cellsOf 2 = 1 := by kernel_rfl
theorem cells9 : Tryd.prog.cellsOf 9 = 1 := by kernel_rfl
theorem cells22 : Tryd.prog.cellsOf 22 = 1 := by kernel_rfl
theorem wf_rng {n : Int} (h : (Lit.int .i64 n).wf = true) : Rng n := by
  have := Go.bounds_i64 h
  unfold Rng; omega
section
variable {H : Type} {enc : TypeId × Value → H} {w : World} {base : Nat} {sp : Nat → Bool} {held : Bool}
theorem RL_of {ad : Addr} : ∀ (l : List VT) (j : Nat), (∀ i x, l[i]? = some x → ∃ p n c, CellsV w (ad.add ((j + i) * 4)) x p n c ∧ IsV w x p n c) → RL w l ad j
  | [], _, _ => trivial
  | x :: r, j, h => by
    simp only [RL]
    refine ⟨?_, RL_of r (j + 1) fun i y hy => ?_⟩
    · obtain ⟨p, n, c, h1, h2⟩ := h 0 x rfl
      exact ⟨p, n, c, h1, h2.cap, h2.big, h2.its⟩
    · have := h (i + 1) y (by simpa using hy)
      rw [show j + 1 + i = j + (i + 1) by omega]
      exact this
theorem FitL_of : ∀ (l : List VT), (∀ x ∈ l, Fit x) → FitL l
  | [], _ => trivial
  | x :: r, h => ⟨h x (.head _), FitL_of r fun y hy => h y (.tail _ hy)⟩
theorem open_cells (k : Nat) : ∀ (fuel : Nat) (cs : List Value) (x : DataW H × List MemPlace), fuel < k → DataW.trod enc Tryd.prog w base sp held fuel 24 cs = some x → ∃ v p n c, cs = cellsV v p n c ∧ IsV w v p n c ∧ Fit v := by
  induction k with
  | zero => intro fuel cs x h; omega
  | succ k ih =>
    intro fuel cs x hk h
    obtain ⟨xs, n, rfl, -, hl, hxl, hall⟩ := DataW.trod_struct Tryd.underlying24 h
    rw [cells24] at hl
    have hxl : xs.length = 4 := hxl
    match cs, hl, xs, hxl with
    | [v0, v1, v2, v3], _, [y0, y1, y2, y3], _ =>
      have g0 : DataW.trod enc Tryd.prog w base sp held n 3 (List.take (Tryd.prog.cellsOf 3) (List.drop 0 [v0, v1, v2, v3])) = some y0 := hall 0 _ rfl
      have g1 : DataW.trod enc Tryd.prog w base sp held n 2 (List.take (Tryd.prog.cellsOf 2) (List.drop 1 [v0, v1, v2, v3])) = some y1 := hall 1 _ rfl
      have g2 : DataW.trod enc Tryd.prog w base sp held n 9 (List.take (Tryd.prog.cellsOf 9) (List.drop 2 [v0, v1, v2, v3])) = some y2 := hall 2 _ rfl
      have g3 : DataW.trod enc Tryd.prog w base sp held n 22 (List.take (Tryd.prog.cellsOf 22) (List.drop 3 [v0, v1, v2, v3])) = some y3 := hall 3 _ rfl
      rw [cells3] at g0
      rw [cells2] at g1
      rw [cells9] at g2
      rw [cells22] at g3
      simp only [List.drop_zero, List.drop_succ_cons, List.take_succ_cons, List.take_zero] at g0 g1 g2 g3
      obtain ⟨kd, e0, -, w0⟩ := DataW.trod_int Tryd.underlying3 g0
      obtain ⟨it, e1, -, w1⟩ := DataW.trod_int Tryd.underlying2 g1
      obtain ⟨s, e2, -, w2⟩ := DataW.trod_string Tryd.underlying9 g2
      cases e0; cases e1; cases e2
      have hm : maxLen = 9223372036854775807 := by decide
      rcases DataW.trod_slice Tryd.underlying22 g3 with ⟨e3, -⟩ | ⟨a, len, cap, el, rs, m, rfl, e3, -, -, hlc, hcap, hel, hget, -, -⟩
      · cases e3
        refine ⟨.mk kd it s [], none, 0, 0, rfl, ⟨by omega, by omega, ?_⟩, ?_⟩
        · rw [RIt_def]; exact ⟨rfl, fun h => by omega⟩
        · rw [Fit_def]; exact ⟨wf_rng w0, wf_rng w1, by show s.size ≤ _; omega, trivial⟩
      · cases e3
        have each : ∀ i, ∃ v : VT, i < len → ∃ p n c, CellsV w (a.add (i * 4)) v p n c ∧ IsV w v p n c ∧ Fit v := by
          intro i
          by_cases hi : i < len
          · have h1 := hget i hi
            rw [cells24, List.getElem?_eq_getElem (by omega)] at h1
            obtain ⟨cs', hc', ht'⟩ := Option.bind_eq_some_iff.1 h1
            obtain ⟨v, p, n, c, rfl, hv, hf⟩ := ih m cs' _ (by omega) ht'
            obtain ⟨_, _, hcc⟩ := World.cells?_some hc'
            refine ⟨v, fun _ => ⟨p, n, c, ⟨?_, hcc 1 (by omega), hcc 2 (by omega), hcc 3 (by omega)⟩, hv, hf⟩⟩
            have := hcc 0 (by omega)
            rw [show (a.add (i * 4)).add 0 = a.add (i * 4) by simp [Addr.add]] at this
            exact this
          · exact ⟨noneV, fun h => absurd h hi⟩
        let F : Nat → VT := fun i => (each i).choose
        have hF : ∀ i, i < len → ∃ p n c, CellsV w (a.add (i * 4)) (F i) p n c ∧ IsV w (F i) p n c ∧ Fit (F i) := fun i => (each i).choose_spec
        have hget' : ∀ i x, ((List.range len).map F)[i]? = some x → i < len ∧ x = F i := fun i x hx => by
          simp only [List.getElem?_map, Option.map_eq_some_iff] at hx
          obtain ⟨j, hj, rfl⟩ := hx
          have hi : i < len := by
            have := (List.getElem?_eq_some_iff.1 hj).1
            simpa using this
          rw [List.getElem?_range hi] at hj
          cases hj
          exact ⟨hi, rfl⟩
        refine ⟨.mk kd it s ((List.range len).map F), some a, len, cap, rfl, ⟨hlc, by omega, ?_⟩, ?_⟩
        · rw [RIt_def]
          refine ⟨by simp [VT.items], fun _ => ⟨a, rfl, RL_of _ 0 fun i x hx => ?_⟩⟩
          obtain ⟨hi, rfl⟩ := hget' i x hx
          obtain ⟨p, n, c, h1, h2, _⟩ := hF i hi
          rw [Nat.zero_add]
          exact ⟨p, n, c, h1, h2⟩
        · rw [Fit_def]
          refine ⟨wf_rng w0, wf_rng w1, by show s.size ≤ _; omega, FitL_of _ fun x hx => ?_⟩
          obtain ⟨i, hx'⟩ := List.mem_iff_getElem?.1 hx
          obtain ⟨hi, rfl⟩ := hget' i x hx'
          obtain ⟨p, n, c, _, _, h3⟩ := hF i hi
          exact h3
theorem open_val {r : Reach} {b0 : Nat} {v : Value} {d : DataW H} {ps : List MemPlace} (hv : Value.okWide Tryd.prog w r b0 24 v) (h : DataW.Trod enc Tryd.prog w base sp held 24 v d ps) :
    ∃ x p n c, v = valV x p n c ∧ IsV w x p n c ∧ Fit x := by
  obtain ⟨cs, rfl, _⟩ := Go.WideShapes.okWide_struct Tryd.underlying24 hv
  obtain ⟨fuel, h⟩ := h
  obtain ⟨x, p, n, c, e, hx, hf⟩ := open_cells _ fuel _ _ (Nat.lt_succ_self _) h
  refine ⟨x, p, n, c, ?_, hx, hf⟩
  have e : cs.toList = cellsV x p n c := e
  have : cs = (cellsV x p n c).toArray := by rw [← e]
  rw [this]; rfl
end
/-! ### the tables -/
theorem u8extra : U8Extra Tryd.prog Tryd.lays260_ren := ⟨by kernel_rfl, by kernel_rfl, by kernel_rfl, by kernel_rfl, by kernel_rfl, by kernel_rfl, by kernel_rfl⟩
theorem first_is : Rows.laid_unicode_utf8_first = Lib.firstData := by kernel_rfl
theorem accept_is : (Rows.laid_unicode_utf8_acceptRanges : DataW Unit) = Lib.acceptData := by kernel_rfl
theorem pow_is : (Rows.laid_internal_strconv_uint64pow10 : DataW Unit) = Lib.tabData .u64 Lib.pow10Tab := by kernel_rfl
theorem gPow : Tryd.prog.globalNamed "internal/strconv.uint64pow10" = some 2 := by kernel_rfl
theorem gPowT : (Tryd.prog.globals[2]?).map (·.type) = some 125 := by kernel_rfl
theorem cells125 : Tryd.prog.cellsOf 125 = 20 := by kernel_rfl
theorem cells89 : Tryd.prog.cellsOf 89 = 1 := by kernel_rfl
theorem tabs_of {w : World} (h3 : Lib.VarReads Tryd.prog w "unicode/utf8.first" Lib.firstData) (h4 : Lib.VarReads Tryd.prog w "unicode/utf8.acceptRanges" Lib.acceptData)
    (h5 : Lib.VarReads Tryd.prog w "internal/strconv.uint64pow10" (Lib.tabData .u64 Lib.pow10Tab)) : Tabs w := by
  refine ⟨utf8Tabs_of_reads Tryd.lays260 u8extra h3 h4, ?_⟩
  obtain ⟨g, t, cs, fuel, p, hg, hty, hvar, hd⟩ := h5
  obtain rfl := Option.some.inj (gPow.symm.trans hg)
  obtain rfl := Option.some.inj (gPowT.symm.trans hty)
  have hcs := Lib.cells_of_tab Tryd.underlying125 Tryd.underlying89 cells89 cells125 hd
  unfold Lib.TabIs
  rw [hvar, ← hcs]
theorem begin_size : decide (7 ≤ (begin Tryd.prog (fun _ _ => 0) default).world.heap.size) = true := by kernel_rfl
theorem globals7 : decide (Tryd.prog.globals.size = 7) = true := by kernel_rfl
theorem last_there : ((begin Tryd.prog (fun _ _ => 0) default).world.heap[6]?).bind Obj.row? |>.isSome := by kernel_rfl
theorem heap7 {w : World} (h : w.ShapedOpen Tryd.prog) : 7 ≤ w.heap.size := by
  obtain ⟨h1, _⟩ := h
  obtain ⟨⟨z, t⟩, he⟩ := Option.isSome_iff_exists.1 last_there
  obtain ⟨cs, hc, _⟩ := h1 6 z t (by have := of_decide_eq_true globals7; omega) he
  have := (Array.getElem?_eq_some_iff.1 hc).1
  omega
/-! ### a law's post: true, and each argument reads as it did -/
theorem laidOut : laidOutB Tryd.prog = true := by kernel_rfl
theorem Ch.toBelow {w w' : World} (h : Ch No w w') : RowKit.Below w.heap.size w w' := ⟨h.os, h.tape, h.output, h.size, fun k hk => h.block k hk (fun h => h)⟩
section
variable {H : Type} {enc : TypeId × Value → H}
theorem trodAll_keep {W W' : World} (hb : Ch No W W') : ∀ (ts : List TypeId) (vs : List Value) (ds : List (DataW H)) (ps : List MemPlace), (∀ t ∈ ts, Tryd.prog.readableRec t = true ∧ t < Tryd.prog.types.size) →
    DataW.TrodAll enc Tryd.prog W 0 (fun _ => true) true ts vs ds ps → (∀ x ∈ ps, x.block < W.heap.size) → DataW.TrodAll enc Tryd.prog W' 0 (fun b => decide (b < W.heap.size)) true ts vs ds ps
  | [], [], [], ps, _, h, _ => h
  | t :: ts, v :: vs, d :: ds, ps, ht, h, hlt => by
    obtain ⟨p, q, h1, h2, rfl⟩ := h
    obtain ⟨t1, t2⟩ := ht t (.head _)
    exact ⟨p, q, RowKit.Below.trod laidOut t1 t2 h1 hb.toBelow (fun x hx => hlt x (List.mem_append_left _ hx)), trodAll_keep hb ts vs ds q (fun t h => ht t (.tail _ h)) h2 (fun x hx => hlt x (List.mem_append_right _ hx)), rfl⟩
  | [], _ :: _, _, _, _, h, _ => h.elim
  | [], [], _ :: _, _, _, h, _ => h.elim
  | _ :: _, [], _, _, _, h, _ => h.elim
  | _ :: _, _ :: _, [], _, _, h, _ => h.elim
theorem post_law {f : Func} {s : ChangeSpec} {W W' : World} {args : Array Value} {ds : List (DataW H)} {before : List MemPlace} (hf : f.resultTypes = #[4]) (hv : s.vars = [])
    (hfn : s.fn H ds = { results := [.lit (.bool true)], args := ds }) (hp : ∀ t ∈ f.params.toList, Tryd.prog.readableRec t = true ∧ t < Tryd.prog.types.size)
    (hW : DataW.Whole enc Tryd.prog f.params.toList s.vars false W args.toList ds [] before) (hc : Ch No W W') : s.post enc Tryd.prog f false true false false W args (.bool true) W' := by
  have hlt := hW.lt
  have hW' := hW
  obtain ⟨p, q, hA, hV, rfl, _, _⟩ := hW
  rw [hv] at hV
  obtain rfl : q = [] := hV
  rw [List.append_nil] at hlt hW'
  refine ⟨ds, [], p, [], p, [], hW', ?_, ?_, ?_, hc.toBelow.frame _, fun h => by cases h⟩
  · rw [List.append_nil, hfn, hf]
    exact ⟨[], [], RowKit.shut_bool Tryd.underlying4 _, rfl, rfl⟩
  · rw [List.append_nil, hfn]
    exact trodAll_keep hc _ _ _ _ hp hA hlt
  · rw [List.append_nil, hfn, hv]
    exact rfl
end
end Go.Proofs.YtjellmblammiaaaDoor
