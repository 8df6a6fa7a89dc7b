/- ShapePorts (a tied card): whatever the number, Ports of the program and of the document's answer tell the same four numbers. Conditions: the row's own: the two listed tables hold what the program's text lays. -/
import Derived.Test.YtahapakplppihaaDoorPost
import Derived.Test.YtahapakplppihaaDoorProg
namespace Go.Proofs.YtahapakplppihaaDoor
open Go Tr Go.ChangeShapes Go.WideShapes Go.ChangeAt Go.RowKit
set_option maxRecDepth 100000
/-! the tree of function 3 -/
def s3 : Script := .cl (.tup [.leaf (.int .i64), .leaf (.int .i64), .leaf (.int .i64), .leaf (.int .i64)]) (.cl (.tup [.leaf (.int .i64), .leaf (.int .i64), .leaf (.int .i64), .leaf (.int .i64)]) (.cl (.tup [.leaf (.int .i64), .leaf (.int .i64), .leaf (.int .i64), .leaf (.int .i64)]) (.sym (.lit (.lit (.lit (.sym (.lit (.lit (.lit (.sym (.lit (.lit (.lit (.sym (.lit (.lit (.sym (.lit (.lit (.sym (.lit (.lit (.sym (.lit (.lit .nil)) (.lit (.lit .nil))))) (.lit (.lit (.lit (.lit (.lit .nil)))))))) (.lit (.lit (.lit (.lit (.lit (.lit (.lit (.lit .nil))))))))))) (.lit (.lit (.lit (.lit (.lit (.lit (.lit (.lit (.lit (.lit (.lit .nil))))))))))))))) (.lit (.lit (.lit (.lit (.lit (.lit (.lit (.lit (.lit (.lit (.lit (.lit (.lit (.lit (.lit .nil))))))))))))))))))) (.lit (.lit (.lit (.lit (.lit (.lit (.lit (.lit (.lit (.lit (.lit (.lit (.lit (.lit (.lit (.lit (.lit (.lit (.lit .nil))))))))))))))))))))))) (.lit (.lit (.lit (.lit (.lit (.lit (.lit (.lit (.lit (.lit (.lit (.lit (.lit (.lit (.lit (.lit (.lit (.lit (.lit (.lit (.lit (.lit (.lit .nil))))))))))))))))))))))))))
theorem t3 (qx0 : Int) : fnT Tryd.prog Tryd.f3 #[.int .i64 qx0] s3 =
  .call 4 #[.int .i64 qx0] (.tup [.leaf (.int .i64), .leaf (.int .i64), .leaf (.int .i64), .leaf (.int .i64)]) (fun r1 =>
    .call 5 #[.int .i64 qx0] (.tup [.leaf (.int .i64), .leaf (.int .i64), .leaf (.int .i64), .leaf (.int .i64)]) (fun r2 =>
      .call 4 #[.int .i64 8] (.tup [.leaf (.int .i64), .leaf (.int .i64), .leaf (.int .i64), .leaf (.int .i64)]) (fun r3 =>
        .br (r1.fst == r2.fst)
          (.br (r1.snd.fst == r2.snd.fst)
            (.br (r1.snd.snd.fst == r2.snd.snd.fst)
              (.br (r1.snd.snd.snd.fst == r2.snd.snd.snd.fst)
                (.br (r3.fst == 2)
                  (.br (r3.snd.fst == 2)
                    (.br (r3.snd.snd.fst == 1)
                      (.done (.returned (.bool (r3.snd.snd.snd.fst == 1))))
                      (.done (.returned (.bool false))))
                    (.done (.returned (.bool false))))
                  (.done (.returned (.bool false))))
                (.done (.returned (.bool false))))
              (.done (.returned (.bool false))))
            (.done (.returned (.bool false))))
          (.done (.returned (.bool false)))))) := by kernel_rfl
/-! the tree of function 4 -/
def s4 : Script := .cl (.one (.leaf .bool)) (.sym .nil (.ix (.ld (.int .i64) (.ld (.int .i64) (.ld (.int .i64) (.ld (.int .i64) (.ld (.int .i64) (.ld (.int .i64) (.ld (.int .i64) (.qt (.ld (.int .i64) (.ld (.int .i64) (.ld (.int .i64) (.ld (.int .i64) .nil))))))))))))))
theorem t4 (qx0 : Int) : fnT Tryd.prog Tryd.f4 #[.int .i64 qx0] s4 =
  .call 6 #[.int .i64 qx0] (.one (.leaf .bool)) (fun b1 =>
    .br (!b1)
      (.done (.returned (.tuple #[.int .i64 (-1), .int .i64 (-1), .int .i64 (-1), .int .i64 (-1)])))
      (.idx (some ⟨0, 0, none⟩) qx0 14 7 (fun a2 =>
        .load a2 (.int .i64) (fun x3 =>
          .load (a2.add 1) (.int .i64) (fun x4 =>
            .load (a2.add 2) (.int .i64) (fun x5 =>
              .load (a2.add 3) (.int .i64) (fun x6 =>
                .load (a2.add 4) (.int .i64) (fun x7 =>
                  .load (a2.add 5) (.int .i64) (fun x8 =>
                    .load (a2.add 6) (.int .i64) (fun x9 =>
                      .new (.cells #[.int .i64 0, .int .i64 0, .int .i64 0, .int .i64 0, .int .i64 0, .int .i64 0, .int .i64 0] 26 (0, 0)) (fun n10 =>
                        .store ⟨n10, 0, none⟩ (.int .i64 x3)
                          (.store ⟨n10, 1, none⟩ (.int .i64 x4)
                            (.store ⟨n10, 2, none⟩ (.int .i64 x5)
                              (.store ⟨n10, 3, none⟩ (.int .i64 x6)
                                (.store ⟨n10, 4, none⟩ (.int .i64 x7)
                                  (.store ⟨n10, 5, none⟩ (.int .i64 x8)
                                    (.store ⟨n10, 6, none⟩ (.int .i64 x9)
                                      (.drawn
                                        (.load ⟨n10, 0, none⟩ (.int .i64) (fun x11 =>
                                          .load ⟨n10, 1, none⟩ (.int .i64) (fun x12 =>
                                            .load ⟨n10, 2, none⟩ (.int .i64) (fun x13 =>
                                              .load ⟨n10, 3, none⟩ (.int .i64) (fun x14 =>
                                                .undrawn
                                                  (.done (.returned (.tuple #[.int .i64 x11, .int .i64 x12, .int .i64 x13, .int .i64 x14])))))))))))))))))))))))))) := by kernel_rfl
/-! the tree of function 5 -/
def s5 : Script := .sym (.lit (.lit (.lit .nil))) (.lit (.lit (.sym .nil (.qt (.ix (.ld (.int .i64) (.ix (.ld (.int .i64) (.ix (.ld (.int .i64) (.ix (.ld (.int .i64) .nil))))))))))))
theorem t5 (qx0 : Int) : fnT Tryd.prog Tryd.f5 #[.int .i64 qx0] s5 =
  .br (Decidable.decide (qx0 < 1))
    (.done (.returned (.tuple #[.int .i64 (-1), .int .i64 (-1), .int .i64 (-1), .int .i64 (-1)])))
    (.br (Decidable.decide (qx0 > 13))
      (.done (.returned (.tuple #[.int .i64 (-1), .int .i64 (-1), .int .i64 (-1), .int .i64 (-1)])))
      (.drawn
        (.idx (some ⟨1, 0, none⟩) qx0 14 7 (fun a1 =>
          .load a1 (.int .i64) (fun x2 =>
            .idx (some ⟨1, 0, none⟩) qx0 14 7 (fun a3 =>
              .load (a3.add 1) (.int .i64) (fun x4 =>
                .idx (some ⟨1, 0, none⟩) qx0 14 7 (fun a5 =>
                  .load (a5.add 2) (.int .i64) (fun x6 =>
                    .idx (some ⟨1, 0, none⟩) qx0 14 7 (fun a7 =>
                      .load (a7.add 3) (.int .i64) (fun x8 =>
                        .undrawn
                          (.done (.returned (.tuple #[.int .i64 x2, .int .i64 x4, .int .i64 x6, .int .i64 x8])))))))))))))) := by kernel_rfl
/-! the tree of function 6 -/
def s6 : Script := .sym (.lit (.lit .nil)) (.lit (.lit .nil))
theorem t6 (qx0 : Int) : fnT Tryd.prog Tryd.f6 #[.int .i64 qx0] s6 =
  .br (Decidable.decide (qx0 ≥ 1))
    (.done (.returned (.bool (Decidable.decide (qx0 ≤ 13)))))
    (.done (.returned (.bool false))) := by kernel_rfl

theorem mixed : Tryd.prog.follows .mixedOrders = true := by kernel_rfl
theorem addr_add (b i j : Nat) : (⟨b, i, none⟩ : Addr).add j = ⟨b, i + j, none⟩ := by
  unfold Addr.add; split <;> simp_all
def needsT : List (List Int) := [[0, 0, 0, 0, 0, 0, 0], [0, 0, 1, 1, 0, 3, 0], [1, 1, 1, 1, 0, 0, 2], [1, 1, 1, 1, 0, 0, 1], [1, 1, 1, 1, 0, 0, 2], [1, 4, 1, 1, 0, 0, 0], [1, 1, 1, 4, 0, 0, 1], [1, 1, 1, 4, 0, 0, 0], [2, 2, 1, 1, 0, 0, 0], [1, 1, 1, 1, 1, 6, 0], [1, 1, 1, 1, 0, 0, 0], [2, 2, 1, 1, 0, 0, 0], [1, 1, 2, 2, 0, 9, 1], [1, 1, 0, 0, 0, 0, 0]]
def kindsT : List (List Int) := [-1, -1, -1, -1, 0, 0, 0] :: needsT.tail
def rowsD (l : List (List Int)) : DataW Unit := .agg (l.map fun r => .agg (r.map fun z => .lit (.int .i64 z)))
theorem needs_is : (Rows.laid_eddy_shape_needs : DataW Unit) = rowsD needsT := by kernel_rfl
theorem kinds_is : (Rows.laid_eddy_eddyref7_kinds : DataW Unit) = rowsD kindsT := by kernel_rfl
/-- The variable g holds these rows of seven numbers. -/
def Holds (w : World) (g : Nat) (l : List (List Int)) : Prop := ∀ i j r z, l[i]? = some r → r[j]? = some z → w.cell? ⟨g, 7 * i + j, none⟩ = some (.int .i64 z)
theorem gN : Tryd.prog.globalNamed "eddy/shape.needs" = some 0 := by kernel_rfl
theorem gK : Tryd.prog.globalNamed "eddy/eddyref7.kinds" = some 1 := by kernel_rfl
theorem gNT : (Tryd.prog.globals[0]?).map (·.type) = some 27 := by kernel_rfl
theorem gKT : (Tryd.prog.globals[1]?).map (·.type) = some 29 := by kernel_rfl
theorem c26 : Tryd.prog.cellsOf 26 = 7 := by kernel_rfl
theorem c28 : Tryd.prog.cellsOf 28 = 7 := by kernel_rfl
theorem c3 : Tryd.prog.cellsOf 3 = 1 := by kernel_rfl
theorem holds_of {w : World} {n : String} {g t e : Nat} {m : Nat} {l : List (List Int)} (hg : Tryd.prog.globalNamed n = some g) (hty : (Tryd.prog.globals[g]?).map (·.type) = some t) (ht : Tryd.prog.underlying t = some (.array m e)) (hc : Tryd.prog.cellsOf e = 7)
    (hl : l.length = m) (h7 : ∀ r ∈ l, r.length = 7)
    (he : ∀ (fuel : Nat) (cs : List Value) (zs : List Int) (p : List MemPlace), DataW.trod (fun _ => ()) Tryd.prog w 0 (fun _ => true) false fuel e cs = some (.agg (zs.map fun z => .lit (.int .i64 z)), p) → cs = zs.map fun z => Value.int .i64 z)
    (h : Lib.VarReads Tryd.prog w n (rowsD l)) : Holds w g l := by
  obtain ⟨g', t', cs, fuel, p, hg', hty', hvar, hd⟩ := h
  obtain rfl := Option.some.inj (hg.symm.trans hg')
  obtain rfl := Option.some.inj (hty.symm.trans hty')
  intro i j r z hr hz
  have hi : i < m := by rw [← hl]; exact (List.getElem?_eq_some_iff.1 hr).1
  obtain ⟨fuel', d, q, hdi, hre⟩ := Lib.array_elem ht hd i hi
  rw [List.getElem?_map, hr] at hdi
  cases hdi
  rw [hc] at hre
  have := he _ _ _ _ hre
  have e0 := congrArg (·[j]?) this
  have hj : j < 7 := by rw [← h7 r (List.mem_of_getElem? hr)]; exact (List.getElem?_eq_some_iff.1 hz).1
  simp only [List.getElem?_take, List.getElem?_drop, List.getElem?_map, hz, if_pos hj] at e0
  rw [World.var?_cell hg hvar (7 * i + j), ← Array.getElem?_toList, Nat.mul_comm 7 i]
  exact e0
theorem needs_of {w : World} (h : Lib.VarReads Tryd.prog w "eddy/shape.needs" (rowsD needsT)) : Holds w 0 needsT :=
  holds_of gN gNT Tryd.underlying27 c26 rfl (by decide) (fun fuel cs zs p h => Lib.ints_of_struct Tryd.underlying26 (fun i f hi => by
    match i, hi with
    | 0, hi | 1, hi | 2, hi | 3, hi | 4, hi | 5, hi | 6, hi => simp at hi; subst hi; exact ⟨Tryd.underlying3, rfl, c3⟩
    | i + 7, hi => simp at hi) c26 h) h
theorem kinds_of {w : World} (h : Lib.VarReads Tryd.prog w "eddy/eddyref7.kinds" (rowsD kindsT)) : Holds w 1 kindsT :=
  holds_of gK gKT Tryd.underlying29 c28 rfl (by decide) (fun fuel cs zs p h => Lib.cells_of_tab Tryd.underlying28 Tryd.underlying3 c3 c28 h) h
/-- What both answer. -/
def portsV (l : List (List Int)) (k : Int) : Int × Int × Int × Int × Unit :=
  if k < 1 ∨ k > 13 then (-1, -1, -1, -1, ()) else ((l.getD k.toNat []).getD 0 0, (l.getD k.toNat []).getD 1 0, (l.getD k.toNat []).getD 2 0, (l.getD k.toNat []).getD 3 0, ())
def retV (x : Int × Int × Int × Int × Unit) : Value := .tuple #[.int .i64 x.1, .int .i64 x.2.1, .int .i64 x.2.2.1, .int .i64 x.2.2.2.1]
theorem Holds.at_ {w : World} {g : Nat} {l : List (List Int)} (h : Holds w g l) (hl : l.length = 14) (h7 : ∀ r ∈ l, r.length = 7) (k : Int) (h1 : 1 ≤ k) (h2 : k ≤ 13) (j : Nat) (hj : j < 7) :
    w.cell? ((Addr.add ⟨g, 0, none⟩ (k.toNat * 7)).add j) = some (.int .i64 ((l.getD k.toNat []).getD j 0)) := by
  have hk : k.toNat < l.length := by omega
  have e : (Addr.add ⟨g, 0, none⟩ (k.toNat * 7)).add j = ⟨g, 7 * k.toNat + j, none⟩ := by rw [addr_add, addr_add, Nat.zero_add, Nat.mul_comm]
  rw [e]
  have hr : l[k.toNat]? = some (l.getD k.toNat []) := by rw [List.getD_eq_getElem?_getD, List.getElem?_eq_getElem hk]; rfl
  refine h k.toNat j _ _ hr ?_
  have : j < (l.getD k.toNat []).length := by rw [h7 _ (List.mem_of_getElem? hr)]; exact hj
  rw [List.getD_eq_getElem?_getD (l := l.getD k.toNat []), List.getElem?_eq_getElem this]; rfl
theorem Holds.no {w w' : World} {g : Nat} {l : List (List Int)} (h : Holds w g l) (hc : Ch No w w') : Holds w' g l := fun i j r z hr hz => by
  have := h i j r z hr hz
  exact hc.cellv this (fun h => h)
theorem known_any (k : Int) (w : World) : Calls Tryd.prog 6 #[.int .i64 k] w fun e w' => e = .returned (.bool (decide (1 ≤ k ∧ k ≤ 13))) ∧ Ch No w w' := by
  refine calls_of_fnT mixed Tryd.func6 (s := s6) ?_
  rw [t6]
  refine br_both (fun e => ⟨?_, Ch.refl _ _⟩) fun e => ⟨?_, Ch.refl _ _⟩
  · have e := of_decide_eq_true e
    congr 2
    exact decide_eq_decide.2 ⟨fun h => ⟨e, h⟩, fun h => h.2⟩
  · have e := of_decide_eq_false e
    rw [decide_eq_false (fun h => e h.1)]
theorem ports_any (k : Int) (w : World) (h : Holds w 0 needsT) : Calls Tryd.prog 4 #[.int .i64 k] w fun e w' => e = .returned (retV (portsV needsT k)) ∧ Ch No w w' := by
  refine calls_of_fnT mixed Tryd.func4 (s := s4) ?_
  rw [t4]
  refine cl_i (known_any k w) ?_
  rintro e w1 ⟨rfl, h1⟩
  refine ⟨_, rfl, br_both (fun e => ?_) fun e => ?_⟩
  · have e : ¬ (1 ≤ k ∧ k ≤ 13) := fun h => by rw [decide_eq_true h] at e; cases e
    refine ⟨?_, h1⟩
    unfold portsV
    rw [if_pos (by omega)]; rfl
  · have e : 1 ≤ k ∧ k ≤ 13 := Decidable.byContradiction fun h => by rw [decide_eq_false h] at e; cases e
    have H := (h.no h1).at_ rfl (by decide) k e.1 e.2
    refine ⟨_, rfl, by omega, by omega, ?_⟩
    have e0 : ∀ a : Addr, a.add 0 = a := fun a => by simp [Addr.add]
    refine ld_int (by have := H 0 (by omega); rw [e0] at this; exact this) (ld_int (H 1 (by omega)) (ld_int (H 2 (by omega)) (ld_int (H 3 (by omega)) (ld_int (H 4 (by omega)) (ld_int (H 5 (by omega)) (ld_int (H 6 (by omega)) ?_))))))
    refine nw fun w2 h2 z2 b2 => ?_
    refine st_blk b2 (by simp) rfl fun w3 h3 z3 b3 => st_blk b3 (by simp) rfl fun w4 h4 z4 b4 => st_blk b4 (by simp) rfl fun w5 h5 z5 b5 => st_blk b5 (by simp) rfl fun w6 h6 z6 b6 => st_blk b6 (by simp) rfl fun w7 h7 z7 b7 => st_blk b7 (by simp) rfl fun w8 h8 z8 b8 => st_blk b8 (by simp) rfl fun w9 h9 z9 b9 => ?_
    have HH : Ch No w w9 := (h1.trans h2).then_ (h3.trans (h4.trans (h5.trans (h6.trans (h7.trans (h8.trans h9)))))) (fun i hi (e : i = _) => by have := h1.size; omega)
    refine ⟨fun w'' => Ch No w9 w'', (Ch.refl _ _).drew, ?_⟩
    have B : ∀ w'', Ch No w9 w'' → Blk w'' _ _ _ := fun w'' h => b9.ch h (fun h => h)
    refine ⟨_, fun w'' h => (B w'' h).cell 0, _, fun w'' h => (B w'' h).cell 1, _, fun w'' h => (B w'' h).cell 2, _, fun w'' h => (B w'' h).cell 3, fun w'' h => ⟨?_, HH.trans h⟩⟩
    unfold portsV
    rw [if_neg (by omega)]; rfl
theorem refPorts_any (k : Int) (w : World) (h : Holds w 1 kindsT) : Calls Tryd.prog 5 #[.int .i64 k] w fun e w' => e = .returned (retV (portsV kindsT k)) ∧ Ch No w w' := by
  refine calls_of_fnT mixed Tryd.func5 (s := s5) ?_
  rw [t5]
  unfold portsV
  refine br_both (fun e => ?_) fun e1 => br_both (fun e => ?_) fun e2 => ?_
  · have e := of_decide_eq_true e
    rw [if_pos (.inl e)]; exact ⟨rfl, Ch.refl _ _⟩
  · have e := of_decide_eq_true e
    rw [if_pos (.inr e)]; exact ⟨rfl, Ch.refl _ _⟩
  · have e1 := of_decide_eq_false e1
    have e2 := of_decide_eq_false e2
    rw [if_neg (by omega)]
    refine ⟨fun w'' => Ch No w w'', (Ch.refl _ _).drew, ?_⟩
    have H := fun w'' (hc : Ch No w w'') => (h.no hc).at_ rfl (by decide) k (by omega) (by omega)
    have e0 : ∀ a : Addr, a.add 0 = a := fun a => by simp [Addr.add]
    refine ⟨_, rfl, by omega, by omega, _, fun w'' hc => by have := H w'' hc 0 (by omega); rw [e0] at this; exact this, ?_⟩
    refine ⟨_, rfl, by omega, by omega, _, fun w'' hc => H w'' hc 1 (by omega), ?_⟩
    refine ⟨_, rfl, by omega, by omega, _, fun w'' hc => H w'' hc 2 (by omega), ?_⟩
    exact ⟨_, rfl, by omega, by omega, _, fun w'' hc => H w'' hc 3 (by omega), fun w'' hc => ⟨rfl, hc⟩⟩
theorem same_ports (k : Int) : portsV needsT k = portsV kindsT k := by
  unfold portsV
  by_cases h : k < 1 ∨ k > 13
  · rw [if_pos h, if_pos h]
  · rw [if_neg h, if_neg h]
    obtain ⟨j, hj⟩ : ∃ j, k.toNat = j + 1 := ⟨k.toNat - 1, by omega⟩
    rw [hj]; rfl
theorem law_any (k : Int) (w : World) (h : Holds w 0 needsT) (h' : Holds w 1 kindsT) : Calls Tryd.prog 3 #[.int .i64 k] w fun e w' => e = .returned (.bool true) ∧ Ch No w w' := by
  refine calls_of_fnT mixed Tryd.func3 (s := s3) ?_
  rw [t3]
  refine cl_i (ports_any k w h) ?_
  rintro e w1 ⟨rfl, h1⟩
  refine ⟨portsV needsT k, rfl, ?_⟩
  refine cl_i (refPorts_any k w1 (h'.no h1)) ?_
  rintro e w2 ⟨rfl, h2⟩
  refine ⟨portsV kindsT k, rfl, ?_⟩
  refine cl_i (ports_any 8 w2 ((h.no h1).no h2)) ?_
  rintro e w3 ⟨rfl, h3⟩
  refine ⟨portsV needsT 8, rfl, ?_⟩
  rw [same_ports]
  have hh := h1.trans (h2.trans h3)
  have no : ∀ {x : Int} {p : Prop}, (x == x) = false → p := fun {x p} e => by simp at e
  refine br_both (fun _ => br_both (fun _ => br_both (fun _ => br_both (fun _ => ?_) no) no) no) no
  exact br_both (fun _ => br_both (fun _ => br_both (fun _ => ⟨rfl, hh⟩) (fun e => by cases e)) (fun e => by cases e)) (fun e => by cases e)
theorem own : ownKnob Tryd.prog.godebug = none := by kernel_rfl
theorem row3 : Tryd.prog.readableRec 3 = true ∧ 3 < Tryd.prog.types.size := ⟨by kernel_rfl, of_decide_eq_true (by kernel_rfl)⟩
theorem contract (H : Type) (enc : TypeId × Value → H) (W : World) (base : Nat) (args : Array Value) (ds gs : List (DataW H)) (before : List MemPlace)
    (hval : ∀ (j : Nat) t v, Tryd.f3.params[j]? = some t → args[j]? = some v → Value.okWide Tryd.prog W .any base t v)
    (hW : DataW.Whole enc Tryd.prog Tryd.f3.params.toList Rows.shapePortsSpec.vars false W args.toList ds gs before) (hL : laidMetH Tryd.prog Rows.shapePortsRow.laid W) :
    Calls Tryd.prog 3 args W fun e W' => ∃ v, e = .returned v ∧ Rows.shapePortsSpec.post enc Tryd.prog Tryd.f3 false true false false W args v W' := by
  have hW' := hW
  obtain ⟨p, q, hA0, hV, rfl, hfz, hnd⟩ := hW
  have hA : DataW.TrodAll enc Tryd.prog W 0 (fun _ => true) true Tryd.f3.params.toList args.toList ds p := hA0
  rw [Tryd.params3] at hA hval
  obtain ⟨v0, vs0, d0, ds0, p0, q0, hargs, rfl, rfl, h0, r0⟩ := trodAll_cons hA
  obtain ⟨rfl, rfl, rfl⟩ := trodAll_nil r0
  obtain rfl : args = #[v0] := by cases args; simp_all
  obtain ⟨rfl, rfl⟩ := trodVars_none hV
  obtain ⟨k, rfl, rfl, rfl, _⟩ := open_int Tryd.underlying3 (hval 0 3 v0 rfl rfl) h0
  have hL' : laidMet Tryd.prog Rows.shapePortsRow.laid W := hL
  have hN := needs_of (by rw [← needs_is]; exact Lib.laidMet.reads hL' (by simp [Rows.shapePortsRow]))
  have hK := kinds_of (by rw [← kinds_is]; exact Lib.laidMet.reads hL' (by simp [Rows.shapePortsRow]))
  refine (law_any k W hN hK).mono fun e W1 ⟨he, hc⟩ => ?_
  subst he
  exact ⟨_, rfl, post_law rfl rfl rfl (fun t ht => by rw [Tryd.params3] at ht; simp at ht; subst ht; exact row3) hW' hc⟩
theorem laid_met (os : Os) : laidMet Tryd.prog Rows.shapePortsRow.laid (((World.laidAll Tryd.prog os Rows.shapePortsRow.laid).forCall (fun _ _ => 0) ⟨#[], #[.int .i64 0], []⟩).memory) :=
  laidMet_laidAll _ (by kernel_rfl) (by kernel_rfl)
theorem reads (os : Os) {H : Type} (enc : TypeId × Value → H) : DataW.whole enc Tryd.prog (((World.laidAll Tryd.prog os Rows.shapePortsRow.laid).forCall (fun _ _ => 0) ⟨#[], #[.int .i64 0], []⟩).memory) Tryd.f3.params.toList Rows.shapePortsSpec.vars false #[Value.int .i64 0].toList 8 = some ([.lit (.int .i64 0)], [], []) := by kernel_rfl
theorem lifted (os : Os) (started : os.Started) (H : Type) (enc : TypeId × Value → H) (F : Stop.Interp) :
    ReturnsInHanded {} Tryd.checked os 3 .any ((OpenSpec.ofChange Rows.shapePortsSpec).preRow enc Tryd.prog Tryd.f3 Rows.shapePortsRow.domain false Rows.shapePortsRow.laid) (((OpenSpec.ofChange Rows.shapePortsSpec).at F).post enc Tryd.prog Tryd.f3 false true false false) := by
  have hx := reads os enc
  refine returnsInHanded_of_row (C := Tryd.checked) (s := OpenSpec.ofChange Rows.shapePortsSpec) own started (by kernel_rfl) Tryd.func3
    (witness_row_at (enc := enc) (C := Tryd.checked) false (World.laidAll Tryd.prog os Rows.shapePortsRow.laid) #[.int .i64 0] (World.laidAll_os _ _ _) (by kernel_rfl) (by kernel_rfl) (by kernel_rfl)
      (OpenSpec.preRow_of_cond 8 hx (by kernel_rfl) (fun k hk => by cases hk) (by kernel_rfl) (laid_met os))) ?_
  intro W base args ds gs before hval hW _ _ _ hL _ _
  exact contract H enc W base args ds gs before hval hW hL
theorem said : Rows.ShapePortsSaid :=
  OpenClaim.holds_of_cond 3 Tryd.f3 rfl rfl rfl rfl rfl rfl rfl ⟨rfl, rfl, rfl, rfl, rfl⟩ rfl rfl rfl rfl rfl (by kernel_rfl) Tryd.func3 (by kernel_rfl)
    (of_decide_eq_true (by kernel_rfl)) (by unfold Func.isWrapper; first | (rw [if_pos (by decide +kernel)]; kernel_rfl) | (rw [if_neg (by decide +kernel)]; exact ⟨rfl, rfl⟩))
    (fun os started H enc _ F => by rw [OpenClaim.pre_eq_preRow]; exact lifted os started H enc F)
theorem plain (f : FuncId) (fn : Func) (hf : Tryd.pinned.checked.prog.funcNamed "eddy/eddylaw7.ShapePorts" = some f) (hfn : Tryd.pinned.checked.prog.funcs[f]? = some fn) :
    false = Tryd.pinned.checked.prog.looks [] ∧ ∀ (j : Nat) t, fn.params[j]? = some t → Tryd.pinned.checked.prog.wantsStandIn t = false := by
  obtain rfl : f = 3 := Option.some.inj ((show Tryd.prog.funcNamed "eddy/eddylaw7.ShapePorts" = some 3 by kernel_rfl).symm.trans hf) |>.symm
  obtain rfl : fn = Tryd.f3 := (Option.some.inj (Tryd.func3.symm.trans hfn)).symm
  refine ⟨by kernel_rfl, fun j t ht => ?_⟩
  rw [Tryd.params3] at ht
  obtain rfl : t = 3 := by simpa using Array.mem_of_getElem? ht
  exact (show Tryd.prog.wantsStandIn 3 = false by kernel_rfl)
theorem shapePorts_holds : Rows.ShapePortsCardSaid :=
  Claim7.holds_tied_plain_at .later [] _ _ _ _ said (fun _ h => by cases h) (by kernel_rfl) (fun _ h => by cases h) shapePorts_row_tie rfl ⟨rfl, rfl⟩ (by kernel_rfl) rfl plain (by kernel_rfl)
#print axioms shapePorts_holds
end Go.Proofs.YtahapakplppihaaDoor
