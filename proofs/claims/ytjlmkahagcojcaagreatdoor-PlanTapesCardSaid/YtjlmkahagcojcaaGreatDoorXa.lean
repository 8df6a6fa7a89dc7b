/- The document's answer: a value as the list of its parts; Check, parts. -/
import Derived.Test.YtjlmkahagcojcaaGreatDoorTpz
namespace Go.Proofs.YtjlmkahagcojcaaGreatDoor.V
open Go Tr
set_option maxRecDepth 100000
/-! the tree of function 120 -/
abbrev fx120_2 (qx1 : Int) (qa2 : Option Addr) (qn2 : Nat) (qc2 : Nat) (n1 : Nat) : List (Tmp × Value) := [(1, .int .i64 qx1), (2, .slice qa2 qn2 qc2), (3, .pointer (some ⟨n1, 0, none⟩))]
abbrev mx120_2 : List (Tmp × Comp) := [(8, .leaf .bool)]
def s120_2 : Script := .ld (.int .i64) (.sym (.lit (.ld (.int .i64) (.lit (.lit (.sym (.lit (.lit (.lit (.lit (.lit (.lit (.lit (.lit (.lit (.lit (.lit (.lit .nil)))))))))))) (.lit (.ld .str (.lit (.lit (.sym (.lit (.ld (.int .i64) (.lit (.lit (.lit (.lit (.sym (.lit (.lit (.lit (.lit (.lit (.lit .nil)))))) (.lit (.ld .sl (.lit (.lit (.lit (.sym (.lit (.ld (.int .i64) (.lit (.lit (.lit (.lit .nil)))))) (.lit (.lit (.lit (.lit (.lit .nil)))))))))))))))))) (.lit (.lit (.lit (.lit (.lit (.lit (.lit (.ld .sl (.lit (.lit (.lit (.sym (.lit (.ld (.int .i64) (.lit (.lit (.lit (.lit .nil)))))) (.lit (.lit (.lit (.lit (.lit .nil))))))))))))))))))))))))))) (.lit (.lit (.lit (.lit (.lit (.ld .str (.lit (.lit (.sym (.lit (.ld (.int .i64) (.lit (.lit (.lit (.lit (.sym (.lit (.lit (.lit (.lit (.lit (.lit .nil)))))) (.lit (.ld .sl (.lit (.lit (.lit (.sym (.lit (.ld (.int .i64) (.lit (.lit (.lit (.lit .nil)))))) (.lit (.lit (.lit (.lit (.lit .nil)))))))))))))))))) (.lit (.lit (.lit (.lit (.lit (.lit (.lit (.ld .sl (.lit (.lit (.lit (.sym (.lit (.ld (.int .i64) (.lit (.lit (.lit (.lit .nil)))))) (.lit (.lit (.lit (.lit (.lit .nil)))))))))))))))))))))))))))
theorem t120_2 (qx1 : Int) (qa2 : Option Addr) (qn2 : Nat) (qc2 : Nat) (n1 : Nat) (gg2 : Nat → Value) : pieceT Tryz.prog (at_ Tryz.f120 [1, 1, 0]) 117 (fx120_2 qx1 qa2 qn2 qc2 n1) gg2 (mx120_2.map (·.1)) [] [] s120_2 = .load ⟨n1, 1, none⟩ (.int .i64) (fun x3 => .br (x3 != 0) (.load ⟨n1, 0, none⟩ (.int .i64) (fun x4 => .br (x4 != 1) (.fin .normal [(8, .bool true)]) (.load ⟨n1, 2, none⟩ .str (fun s5 => .br (!s5.toList == (bytesL []).toList) (.load ⟨n1, 0, none⟩ (.int .i64) (fun x6 => .br (x6 != 2) (.fin .normal [(8, .bool true)]) (.load ⟨n1, 3, none⟩ .sl (fun l7 => .br (Decidable.decide ((↑l7.snd.fst : Int) > 0)) (.load ⟨n1, 0, none⟩ (.int .i64) (fun x8 => .fin .normal [(8, .bool (x8 != 3))])) (.fin .normal [(8, .bool false)]))))) (.load ⟨n1, 3, none⟩ .sl (fun l9 => .br (Decidable.decide ((↑l9.snd.fst : Int) > 0)) (.load ⟨n1, 0, none⟩ (.int .i64) (fun x10 => .fin .normal [(8, .bool (x10 != 3))])) (.fin .normal [(8, .bool false)]))))))) (.load ⟨n1, 2, none⟩ .str (fun s11 => .br (!s11.toList == (bytesL []).toList) (.load ⟨n1, 0, none⟩ (.int .i64) (fun x12 => .br (x12 != 2) (.fin .normal [(8, .bool true)]) (.load ⟨n1, 3, none⟩ .sl (fun l13 => .br (Decidable.decide ((↑l13.snd.fst : Int) > 0)) (.load ⟨n1, 0, none⟩ (.int .i64) (fun x14 => .fin .normal [(8, .bool (x14 != 3))])) (.fin .normal [(8, .bool false)]))))) (.load ⟨n1, 3, none⟩ .sl (fun l15 => .br (Decidable.decide ((↑l15.snd.fst : Int) > 0)) (.load ⟨n1, 0, none⟩ (.int .i64) (fun x16 => .fin .normal [(8, .bool (x16 != 3))])) (.fin .normal [(8, .bool false)])))))) := by kernel_rfl
abbrev fx120_18 (qx1 : Int) (qa2 : Option Addr) (qn2 : Nat) (qc2 : Nat) (n1 : Nat) (u17 : Bool × Unit) : List (Tmp × Value) := [(1, .int .i64 qx1), (2, .slice qa2 qn2 qc2), (3, .pointer (some ⟨n1, 0, none⟩)), (8, .bool u17.1)]
abbrev mx120_18 : List (Tmp × Comp) := [(45, .leaf .bool)]
def s120_18 : Script := .ld (.int .i64) (.sym (.lit (.lit (.lit (.lit (.lit .nil))))) (.lit (.ld (.int .i64) (.lit (.lit (.sym (.lit .nil) (.lit .nil)))))))
theorem t120_18 (qx1 : Int) (qa2 : Option Addr) (qn2 : Nat) (qc2 : Nat) (n1 : Nat) (u17 : Bool × Unit) (gg18 : Nat → Value) : pieceT Tryz.prog (at_ Tryz.f120 [1, 1, 1, 0, 0, 0]) 117 (fx120_18 qx1 qa2 qn2 qc2 n1 u17) gg18 (mx120_18.map (·.1)) [] [] s120_18 = .load ⟨n1, 0, none⟩ (.int .i64) (fun x19 => .br (Decidable.decide (x19 < 0)) (.fin .normal [(45, .bool true)]) (.load ⟨n1, 0, none⟩ (.int .i64) (fun x20 => .br (Decidable.decide (x20 > 3)) (.fin .normal [(45, .bool true)]) (.fin .normal [(45, .bool u17.1)])))) := by kernel_rfl
abbrev fx120_22 (qx1 : Int) (qa2 : Option Addr) (qn2 : Nat) (qc2 : Nat) (n1 : Nat) : List (Tmp × Value) := [(1, .int .i64 qx1), (2, .slice qa2 qn2 qc2), (3, .pointer (some ⟨n1, 0, none⟩))]
abbrev mx120_22 : List (Tmp × Comp) := [(58, .leaf .bool)]
def s120_22 : Script := .ld (.int .i64) (.sym (.lit (.lit .nil)) (.lit (.lit .nil)))
theorem t120_22 (qx1 : Int) (qa2 : Option Addr) (qn2 : Nat) (qc2 : Nat) (n1 : Nat) (gg22 : Nat → Value) : pieceT Tryz.prog (at_ Tryz.f120 [1, 1, 1, 0, 0, 1, 1, 0]) 117 (fx120_22 qx1 qa2 qn2 qc2 n1) gg22 (mx120_22.map (·.1)) [] [] s120_22 = .load ⟨n1, 0, none⟩ (.int .i64) (fun x23 => .br (x23 == 3) (.fin .normal [(58, .bool (Decidable.decide (qx1 ≥ 3)))]) (.fin .normal [(58, .bool false)])) := by kernel_rfl
abbrev fx120_33 (qx1 : Int) (n1 : Nat) : List (Tmp × Value) := [(1, .int .i64 qx1), (3, .pointer (some ⟨n1, 0, none⟩))]
abbrev m120_33 : List (Tmp × Comp) := [(2, .leaf .sl), (9, .leaf (.int .i64))]
abbrev mx120_33 : List (Tmp × Comp) := [(2, .leaf .sl)]
abbrev mr120_33 : List (Tmp × Comp) := [(6, .leaf .sl), (7, .leaf (.int .i64))]
def s120_33 : Script := .ld .sl (.sym (.ld .sl (.ix (.ld (.int .i64) (.ld (.int .i64) (.ld .str (.ld .sl (.cl (.tup [.leaf .sl, .leaf (.int .i64)]) (.sym .nil .nil)))))))) .nil)
theorem t120_33 (qx1 : Int) (n1 : Nat) (l_2 : Option Addr × Nat × Nat) (x_9 : Int) (gg33 : Nat → Value) : pieceT Tryz.prog (at_ Tryz.f120 [1, 1, 1, 1, 1, 0, 1, 0, 0]) 117 (fx120_33 qx1 n1 ++ mvals m120_33 (l_2, x_9, ())) gg33 (m120_33.map (·.1)) (mx120_33.map (·.1)) (mr120_33.map (·.1)) s120_33 = .load ⟨n1, 3, none⟩ .sl (fun l34 => .br (Decidable.decide (x_9 < (↑l34.snd.fst : Int))) (.load ⟨n1, 3, none⟩ .sl (fun l35 => .idx l35.1 x_9 l35.2.1 4 (fun a36 => .load a36 (.int .i64) (fun x37 => .load (a36.add 1) (.int .i64) (fun x38 => .load (a36.add 2) .str (fun s39 => .load (a36.add 3) .sl (fun l40 => .call 120 #[.agg #[.int .i64 x37, .int .i64 x38, .string s39, .slice l40.1 l40.2.1 l40.2.2], .int .i64 (IntKind.i64.wrap (qx1 + 1)), .slice l_2.1 l_2.2.1 l_2.2.2] (.tup [.leaf .sl, .leaf (.int .i64)]) (fun r41 => .br (r41.snd.fst != 0) (.fin .ret [(6, .slice r41.1.1 r41.1.2.1 r41.1.2.2), (7, .int .i64 r41.2.1)]) (.fin .normal [(2, .slice r41.1.1 r41.1.2.1 r41.1.2.2), (9, .int .i64 (IntKind.i64.wrap (x_9 + 1)))]))))))))) (.fin (.exit 1) [(2, .slice l_2.1 l_2.2.1 l_2.2.2)])) := by kernel_rfl
def s120 : Script := .sym .nil (.ct 0 [1, 2, 3] mx120_2 (.ct 1 [1, 2, 3, 8] mx120_18 (.sym .nil (.ct 0 [1, 2, 3] mx120_22 (.sym .nil (.ld .str (.sym .nil (.ld .sl (.sym .nil (.ld (.int .i64) (.ld (.int .i64) (.ld .str (.ld .sl (.nop (.nop (.nop (.rn (.one (.leaf .sl)) (.lp 1 [1, 3] [2, 9] mx120_33 mr120_33 .nil .nil))))))))))))))))))
theorem t120 (qx0_0 : Int) (qx0_1 : Int) (qs0_2 : ByteArray) (qa0_3 : Option Addr) (qn0_3 : Nat) (qc0_3 : Nat) (qx1 : Int) (qa2 : Option Addr) (qn2 : Nat) (qc2 : Nat) : fnT Tryz.prog Tryz.f120 #[.agg #[.int .i64 qx0_0, .int .i64 qx0_1, .string qs0_2, .slice qa0_3 qn0_3 qc0_3], .int .i64 qx1, .slice qa2 qn2 qc2] s120 = .new (.cells #[.int .i64 qx0_0, .int .i64 qx0_1, .string qs0_2, .slice qa0_3 qn0_3 qc0_3] 52 (0, 0)) (fun n1 => .br (Decidable.decide ((↑qn2 : Int) ≥ 12)) (.done (.returned (.tuple #[.slice qa2 qn2 qc2, .int .i64 22]))) (.cut (at_ Tryz.f120 [1, 1, 0]) 117 (fx120_2 qx1 qa2 qn2 qc2 n1) mx120_2 (fun u17 g17 => .cut (at_ Tryz.f120 [1, 1, 1, 0, 0, 0]) 117 (fx120_18 qx1 qa2 qn2 qc2 n1 u17) mx120_18 (fun u21 g21 => .br u21.1 (.done (.returned (.tuple #[.slice qa2 qn2 qc2, .int .i64 20]))) (.cut (at_ Tryz.f120 [1, 1, 1, 0, 0, 1, 1, 0]) 117 (fx120_22 qx1 qa2 qn2 qc2 n1) mx120_22 (fun u24 g24 => .br u24.1 (.done (.returned (.tuple #[.slice qa2 qn2 qc2, .int .i64 23]))) (.load ⟨n1, 2, none⟩ .str (fun s25 => .br (Decidable.decide ((↑s25.size : Int) > 24)) (.done (.returned (.tuple #[.slice qa2 qn2 qc2, .int .i64 21]))) (.load ⟨n1, 3, none⟩ .sl (fun l26 => .br (Decidable.decide ((↑l26.snd.fst : Int) > 6)) (.done (.returned (.tuple #[.slice qa2 qn2 qc2, .int .i64 22]))) (.load ⟨n1, 0, none⟩ (.int .i64) (fun x27 => .load ⟨n1, 1, none⟩ (.int .i64) (fun x28 => .load ⟨n1, 2, none⟩ .str (fun s29 => .load ⟨n1, 3, none⟩ .sl (fun l30 => .new (.cells #[.int .i64 x27, .int .i64 x28, .string s29, .int .i64 (↑l30.snd.fst : Int)] 208 (0, 0)) (fun n31 => .run (builtin .append #[173, 173] 173 #[false, false] #[.slice qa2 qn2 qc2, .slice (some ⟨n31, 0, none⟩) 1 1]) (.one (.leaf .sl)) (fun l32 => .loop (at_ Tryz.f120 [1, 1, 1, 1, 1, 0, 1, 0, 0]) 117 (fx120_33 qx1 n1) [(2, .slice l32.1 l32.2.1 l32.2.2), (9, .int .i64 0)] mx120_33 mr120_33 1 (fun u42 g42 => .done (.returned (.tuple #[.slice u42.1.1 u42.1.2.1 u42.1.2.2, .int .i64 0]))) (fun u43 g43 => .done (.returned (.tuple #[.slice u43.1.1 u43.1.2.1 u43.1.2.2, .int .i64 u43.2.1])))))))))))))))))))) := by kernel_rfl
/-! the tree of function 90 -/
def s90 : Script := .ld (.int .i64) (.ld (.int .i64) (.ld .str (.ld .sl (.cl (.tup [.leaf .sl, .leaf (.int .i64)]) .nil))))
theorem t90 (qx0_0 : Int) (qx0_1 : Int) (qs0_2 : ByteArray) (qa0_3 : Option Addr) (qn0_3 : Nat) (qc0_3 : Nat) : fnT Tryz.prog Tryz.f90 #[.agg #[.int .i64 qx0_0, .int .i64 qx0_1, .string qs0_2, .slice qa0_3 qn0_3 qc0_3]] s90 = .new (.cells #[.int .i64 qx0_0, .int .i64 qx0_1, .string qs0_2, .slice qa0_3 qn0_3 qc0_3] 52 (0, 0)) (fun n1 => .load ⟨n1, 0, none⟩ (.int .i64) (fun x2 => .load ⟨n1, 1, none⟩ (.int .i64) (fun x3 => .load ⟨n1, 2, none⟩ .str (fun s4 => .load ⟨n1, 3, none⟩ .sl (fun l5 => .call 120 #[.agg #[.int .i64 x2, .int .i64 x3, .string s4, .slice l5.1 l5.2.1 l5.2.2], .int .i64 0, .slice none 0 0] (.tup [.leaf .sl, .leaf (.int .i64)]) (fun r6 => .done (.returned (.int .i64 r6.2.1)))))))) := by kernel_rfl
/-! the tree of function 92 -/
def s92 : Script := .ld (.int .i64) (.ld (.int .i64) (.ld .str (.ld .sl (.cl (.tup [.leaf .sl, .leaf (.int .i64)]) (.sym .nil .nil)))))
theorem t92 (qx0_0 : Int) (qx0_1 : Int) (qs0_2 : ByteArray) (qa0_3 : Option Addr) (qn0_3 : Nat) (qc0_3 : Nat) : fnT Tryz.prog Tryz.f92 #[.agg #[.int .i64 qx0_0, .int .i64 qx0_1, .string qs0_2, .slice qa0_3 qn0_3 qc0_3]] s92 = .new (.cells #[.int .i64 qx0_0, .int .i64 qx0_1, .string qs0_2, .slice qa0_3 qn0_3 qc0_3] 52 (0, 0)) (fun n1 => .load ⟨n1, 0, none⟩ (.int .i64) (fun x2 => .load ⟨n1, 1, none⟩ (.int .i64) (fun x3 => .load ⟨n1, 2, none⟩ .str (fun s4 => .load ⟨n1, 3, none⟩ .sl (fun l5 => .call 120 #[.agg #[.int .i64 x2, .int .i64 x3, .string s4, .slice l5.1 l5.2.1 l5.2.2], .int .i64 0, .slice none 0 0] (.tup [.leaf .sl, .leaf (.int .i64)]) (fun r6 => .br (r6.snd.fst != 0) (.new (.cells #[.int .i64 0, .int .i64 0, .string (bytesL []), .int .i64 0] 208 (0, 0)) (fun n7 => .done (.returned (.slice (some ⟨n7, 0, none⟩) 1 1)))) (.done (.returned (.slice r6.1.1 r6.1.2.1 r6.1.2.2))))))))) := by kernel_rfl
abbrev tPart : TypeId := 208
/-- A part. -/
structure PartM where
  kind : Int
  int : Int
  text : ByteArray
  n : Int
def PartM.cells (p : PartM) : List Value := [.int .i64 p.kind, .int .i64 p.int, .string p.text, .int .i64 p.n]
mutual
/-- A value's parts, from the left. -/
def flatP : VT → List PartM
  | .mk k i s l => ⟨k, i, s, l.length⟩ :: flatL l
def flatL : List VT → List PartM
  | [] => []
  | x :: r => flatP x ++ flatL r
end
theorem flatP_def (x : VT) : flatP x = ⟨x.kind, x.int, x.text, x.items.length⟩ :: flatL x.items := by cases x; simp only [flatP]; rfl
theorem flatL_app (a b : List VT) : flatL (a ++ b) = flatL a ++ flatL b := by
  induction a with
  | nil => rfl
  | cons x r ih => simp only [List.cons_append, flatL, ih, List.append_assoc]
theorem flatP_pos (x : VT) : 0 < (flatP x).length := by rw [flatP_def]; simp
abbrev partCells (L : List PartM) : List Value := L.flatMap PartM.cells
/-- Parts in memory of one's own. -/
abbrev PRow (w : World) (base : Nat) (q : Option Addr) (t d : Nat) (L : List PartM) : Prop := Row w base tPart 4 q t d (partCells L)
theorem partCells_app (a b : List PartM) : partCells (a ++ b) = partCells a ++ partCells b := List.flatMap_append
theorem partCells_len (L : List PartM) : (partCells L).length = L.length * 4 := by
  induction L with
  | nil => rfl
  | cons p L ih => simp only [partCells, List.flatMap_cons, List.length_append, List.length_cons] at ih ⊢; rw [ih]; show 4 + _ = _; omega
theorem PRow.len {w : World} {base : Nat} {q : Option Addr} {t d : Nat} {L : List PartM} (h : PRow w base q t d L) : L.length = t := by
  have := Row.len h
  rw [partCells_len] at this
  omega
theorem infoPart : (Tryz.prog.info? tPart).map (fun i => (i.zero, i.size, i.bytes)) = some (some (.agg #[.int .i64 0, .int .i64 0, .string (bytesL []), .int .i64 0]), 4, 40) := by kernel_rfl
theorem _root_.Go.Proofs.YtjlmkahagcojcaaGreatDoor.IsV.up {w0 w : World} {x : VT} {p : Option Addr} {n c : Nat} (h : IsV w0 x p n c) (hc : Ch (w0.heap.size ≤ ·) w0 w) : IsV w x p n c :=
  ⟨h.cap, h.big, RIt_ch (fun a v ha => hc.cellv ha (fun (hh : w0.heap.size ≤ a.block) => by
    have := World.block_lt_of_cell? w0 a ha
    omega)) x p n h.its⟩
theorem upCell {w0 w : World} (hc : Ch (w0.heap.size ≤ ·) w0 w) {a : Addr} {v : Value} (h : w0.cell? a = some v) : w.cell? a = some v :=
  hc.cellv h (fun (hh : w0.heap.size ≤ a.block) => by
    have := World.block_lt_of_cell? w0 a h
    omega)
theorem fin3 {R : Ending → World → Prop} {Q : Exit → List (Tmp × Value) → World → Prop} {w : World} {n1 slot : Nat} {x : VT} {p : Option Addr} {m c : Nat} (B : Blk w n1 (cellsV x p m c) 52) (hl : x.items.length = m)
    (hQ : Q .normal [(slot, .bool (decide (0 < x.items.length ∧ x.kind ≠ 3)))] w) :
    wpT Tryz.prog R Q (.load ⟨n1, 3, none⟩ .sl (fun l9 => .br (Decidable.decide ((↑l9.snd.fst : Int) > 0)) (.load ⟨n1, 0, none⟩ (.int .i64) (fun x10 => .fin .normal [(slot, .bool (x10 != 3))])) (.fin .normal [(slot, .bool false)]))) .pl w := by
  refine ld_sl (B.cell 3) ?_
  dsimp only
  refine br_both (fun e => ld_int (B.cell 0) ?_) fun e => ?_
  · have e := gt_t e
    have : (x.kind != 3) = decide (0 < x.items.length ∧ x.kind ≠ 3) := by
      by_cases h : x.kind = 3
      · rw [h, decide_eq_false (fun h => h.2 rfl)]; rfl
      · rw [decide_eq_true ⟨by omega, h⟩, bne_iff_ne.2 h]
    show Q _ _ _
    rw [this]; exact hQ
  · have e := gt_f e
    rw [decide_eq_false (fun h => by omega)] at hQ
    exact hQ
theorem text_nil {s : ByteArray} : (!s.toList == (bytesL []).toList) = decide (s.toList ≠ []) := by
  rw [bytesL_nil]
  by_cases h : s.toList = []
  · rw [h]; rfl
  · rw [decide_eq_true h, beq_eq_false_iff_ne.2 h]; rfl
theorem oth_i {R : Ending → World → Prop} {Q : Exit → List (Tmp × Value) → World → Prop} {w : World} {n1 slot : Nat} {x : VT} {p : Option Addr} {m c : Nat} (B : Blk w n1 (cellsV x p m c) 52) (hl : x.items.length = m)
    (hQ : Q .normal [(slot, .bool (decide ((x.int ≠ 0 ∧ x.kind ≠ 1) ∨ (x.text.toList ≠ [] ∧ x.kind ≠ 2) ∨ (0 < x.items.length ∧ x.kind ≠ 3))))] w) :
    wpT Tryz.prog R Q (.load ⟨n1, 1, none⟩ (.int .i64) (fun x3 =>
    .br (x3 != 0)
      (.load ⟨n1, 0, none⟩ (.int .i64) (fun x4 =>
        .br (x4 != 1)
          (.fin .normal [(slot, .bool true)])
          (.load ⟨n1, 2, none⟩ .str (fun s5 =>
            .br (!s5.toList == (bytesL []).toList)
              (.load ⟨n1, 0, none⟩ (.int .i64) (fun x6 =>
                .br (x6 != 2)
                  (.fin .normal [(slot, .bool true)])
                  (.load ⟨n1, 3, none⟩ .sl (fun l7 =>
                    .br (Decidable.decide ((↑l7.snd.fst : Int) > 0))
                      (.load ⟨n1, 0, none⟩ (.int .i64) (fun x8 =>
                        .fin .normal [(slot, .bool (x8 != 3))]))
                      (.fin .normal [(slot, .bool false)])))))
              (.load ⟨n1, 3, none⟩ .sl (fun l9 =>
                .br (Decidable.decide ((↑l9.snd.fst : Int) > 0))
                  (.load ⟨n1, 0, none⟩ (.int .i64) (fun x10 =>
                    .fin .normal [(slot, .bool (x10 != 3))]))
                  (.fin .normal [(slot, .bool false)])))))))
      (.load ⟨n1, 2, none⟩ .str (fun s11 =>
        .br (!s11.toList == (bytesL []).toList)
          (.load ⟨n1, 0, none⟩ (.int .i64) (fun x12 =>
            .br (x12 != 2)
              (.fin .normal [(slot, .bool true)])
              (.load ⟨n1, 3, none⟩ .sl (fun l13 =>
                .br (Decidable.decide ((↑l13.snd.fst : Int) > 0))
                  (.load ⟨n1, 0, none⟩ (.int .i64) (fun x14 =>
                    .fin .normal [(slot, .bool (x14 != 3))]))
                  (.fin .normal [(slot, .bool false)])))))
          (.load ⟨n1, 3, none⟩ .sl (fun l15 =>
            .br (Decidable.decide ((↑l15.snd.fst : Int) > 0))
              (.load ⟨n1, 0, none⟩ (.int .i64) (fun x16 =>
                .fin .normal [(slot, .bool (x16 != 3))]))
              (.fin .normal [(slot, .bool false)])))))) ) .pl w := by
  have yes : (x.int ≠ 0 ∧ x.kind ≠ 1) ∨ (x.text.toList ≠ [] ∧ x.kind ≠ 2) → Q .normal [(slot, .bool true)] w := fun h => by
    rw [decide_eq_true (h.elim .inl (fun h => .inr (.inl h)))] at hQ
    exact hQ
  have tl : ¬ (x.int ≠ 0 ∧ x.kind ≠ 1) → ¬ (x.text.toList ≠ [] ∧ x.kind ≠ 2) → Q .normal [(slot, .bool (decide (0 < x.items.length ∧ x.kind ≠ 3)))] w := fun hA hB => by
    rw [decide_eq_decide.2 (⟨fun h => (h.resolve_left hA).resolve_left hB, fun h => .inr (.inr h)⟩ : _ ↔ (0 < x.items.length ∧ x.kind ≠ 3))] at hQ
    exact hQ
  refine ld_int (B.cell 1) (br_both (fun e => ?_) fun e => ?_)
  · have e := ne_t e
    refine ld_int (B.cell 0) (br_both (fun e1 => yes (.inl ⟨e, ne_t e1⟩)) fun e1 => ?_)
    have hA : ¬ (x.int ≠ 0 ∧ x.kind ≠ 1) := fun h => h.2 (ne_f e1)
    refine ld_str (B.cell 2) ?_
    rw [text_nil]
    refine br_both (fun e2 => ?_) fun e2 => fin3 B hl (tl hA fun h => of_decide_eq_false e2 h.1)
    refine ld_int (B.cell 0) (br_both (fun e3 => yes (.inr ⟨of_decide_eq_true e2, ne_t e3⟩)) fun e3 => fin3 B hl (tl hA fun h => h.2 (ne_f e3)))
  · have hA : ¬ (x.int ≠ 0 ∧ x.kind ≠ 1) := fun h => h.1 (ne_f e)
    refine ld_str (B.cell 2) ?_
    rw [text_nil]
    refine br_both (fun e2 => ?_) fun e2 => fin3 B hl (tl hA fun h => of_decide_eq_false e2 h.1)
    refine ld_int (B.cell 0) (br_both (fun e3 => yes (.inr ⟨of_decide_eq_true e2, ne_t e3⟩)) fun e3 => fin3 B hl (tl hA fun h => h.2 (ne_f e3)))
set_option maxHeartbeats 1000000 in
theorem flat_any (w0 : World) (k : Nat) : ∀ (x : VT) (p : Option Addr) (m c : Nat) (depth : Int) (L : List PartM) (q : Option Addr) (t d : Nat) (w : World), SizeOf.sizeOf x < k → IsV w0 x p m c → Ch (w0.heap.size ≤ ·) w0 w → PRow w w0.heap.size q t d L → L.length ≤ 12 → 0 ≤ depth → depth ≤ 3 →
    Calls Tryz.prog 120 #[valV x p m c, .int .i64 depth, .slice q t d] w fun e w' => ∃ L' q' d', e = .returned (.tuple #[.slice q' L'.length d', .int .i64 (partV L.length depth x).1]) ∧ Grew w0.heap.size tPart 4 w q t d w' q' L'.length d' (partCells L') ∧ ((partV L.length depth x).1 = 0 → L' = L ++ flatP x ∧ (L'.length : Int) = (partV L.length depth x).2) := by
  induction k with
  | zero => intro x p m c depth L q t d w h; omega
  | succ k ih =>
    intro x p m c depth L q t d w hk hx hw hR h12 d0 d3
    refine calls_of_fnT mixed Tryz.func120 (s := s120) ?_
    unfold valV
    rw [t120, partV_def]
    have hlt := PRow.len hR
    refine nw fun w1 h1 z1 (B : Blk w1 _ (cellsV x p m c) 52) => ?_
    have R1 : PRow w1 w0.heap.size q t d L := Row.no hR h1
    have W1 : Ch (w0.heap.size ≤ ·) w0 w1 := hw.trans h1.no
    have hxl := RIt_len hx.its
    have same : ∀ (er : Int) (n' : Int), er ≠ 0 → ∃ L' q' d', Ending.returned (.tuple #[.slice q t d, .int .i64 er]) = .returned (.tuple #[.slice q' L'.length d', .int .i64 (er, n').1]) ∧ Grew w0.heap.size tPart 4 w q t d w1 q' L'.length d' (partCells L') ∧ ((er, n').1 = 0 → L' = L ++ flatP x ∧ (L'.length : Int) = (er, n').2) := fun er n' hne => by
      subst hlt
      exact ⟨L, q, d, rfl, (Grew.refl R1).after h1, fun h => absurd h hne⟩
    refine br_both (fun e => ?_) fun e => ?_
    · have e := ge_t e
      rw [if_pos (by omega)]
      exact same 22 _ (by decide)
    have e := ge_f e
    have h11 : L.length < 12 := by omega
    rw [if_neg (by omega)]
    clear e
    refine cut_i mixed s120_2 (fun (v : Bool × Unit) w' => w' = w1 ∧ v.1 = decide ((x.int ≠ 0 ∧ x.kind ≠ 1) ∨ (x.text.toList ≠ [] ∧ x.kind ≠ 2) ∨ (0 < x.items.length ∧ x.kind ≠ 3))) (by kernel_rfl) (fun g => ?_) ?_
    · rw [t120_2]
      exact oth_i B hxl ⟨rfl, (_, ()), rfl, rfl, rfl⟩
    rintro ⟨u, ⟨⟩⟩ g w2 ⟨rfl, hu⟩
    dsimp only at hu
    subst hu
    refine cut_i mixed s120_18 (fun (v : Bool × Unit) w' => w' = w2 ∧ v.1 = decide ((x.kind < 0 ∨ x.kind > 3) ∨ ((x.int ≠ 0 ∧ x.kind ≠ 1) ∨ (x.text.toList ≠ [] ∧ x.kind ≠ 2) ∨ (0 < x.items.length ∧ x.kind ≠ 3)))) (by kernel_rfl) (fun g => ?_) ?_
    · rw [t120_18]
      refine ld_int (B.cell 0) (br_both (fun e => ⟨rfl, (true, ()), rfl, rfl, ?_⟩) fun e1 => ld_int (B.cell 0) (br_both (fun e => ⟨rfl, (true, ()), rfl, rfl, ?_⟩) fun e2 => ⟨rfl, (_, ()), rfl, rfl, ?_⟩))
      · exact (decide_eq_true (.inl (.inl (lt_t e)))).symm
      · exact (decide_eq_true (.inl (.inr (gt_t e)))).symm
      · have e1 := lt_f e1
        have e2 := gt_f e2
        exact decide_eq_decide.2 ⟨fun h => .inr h, fun h => h.resolve_left (by omega)⟩
    rintro ⟨u, ⟨⟩⟩ g w3 ⟨rfl, hu⟩
    dsimp only at hu
    subst hu
    refine br_both (fun e => ?_) fun e => ?_
    · have e := of_decide_eq_true e
      by_cases hk : x.kind < 0 ∨ x.kind > 3
      · rw [if_pos hk]; exact same 20 _ (by decide)
      · rw [if_neg hk, if_pos (e.resolve_left hk)]; exact same 20 _ (by decide)
    have e := of_decide_eq_false e
    rw [if_neg (fun h => e (.inl h)), if_neg (fun h => e (.inr h))]
    have hk3 : ¬ (0 < x.items.length ∧ x.kind ≠ 3) := fun h => e (.inr (.inr (.inr h)))
    clear e
    refine cut_i mixed s120_22 (fun (v : Bool × Unit) w' => w' = w3 ∧ v.1 = decide (x.kind = 3 ∧ depth ≥ 3)) (by kernel_rfl) (fun g => ?_) ?_
    · rw [t120_22]
      refine ld_int (B.cell 0) (br_both (fun e => ⟨rfl, (decide (depth ≥ 3), ()), rfl, rfl, ?_⟩) fun e => ⟨rfl, (false, ()), rfl, rfl, ?_⟩)
      · exact decide_eq_decide.2 ⟨fun h => ⟨eq_t e, h⟩, fun h => h.2⟩
      · exact (decide_eq_false (fun h => eq_f e h.1)).symm
    rintro ⟨u, ⟨⟩⟩ g w4 ⟨rfl, hu⟩
    dsimp only at hu
    subst hu
    refine br_both (fun e => ?_) fun e => ?_
    · rw [if_pos (of_decide_eq_true e)]; exact same 23 _ (by decide)
    have e3 := of_decide_eq_false e
    rw [if_neg e3]
    refine ld_str (B.cell 2) (br_both (fun e => ?_) fun e => ?_)
    · have e := gt_t e
      rw [if_pos (by omega)]; exact same 21 _ (by decide)
    have e := gt_f e
    rw [if_neg (by omega)]
    clear e
    refine ld_sl (B.cell 3) ?_
    dsimp only
    refine br_both (fun e => ?_) fun e => ?_
    · have e := gt_t e
      rw [if_pos (by omega)]; exact same 22 _ (by decide)
    have h6 := gt_f e
    rw [if_neg (by omega)]
    refine ld_v B ?_
    dsimp only
    refine nw fun w5 h5 z5 (b5 : Blk w5 _ (PartM.cells ⟨x.kind, x.int, x.text, (m : Int)⟩) 208) => ?_
    have R5 : PRow w5 w0.heap.size q t d L := Row.no R1 h5
    have hw0 : w0.heap.size ≤ w5.heap.size := by have := hw.size; have := h1.size; have := h5.size; omega
    refine ap_blk (by kernel_rfl) infoPart rfl (by omega) R5 hw0 b5 rfl (fun u hu => ?_) (Nat.le_trans (by omega : t + 1 ≤ 13) (by decide)) (by omega) fun q6 d6 w6 g6 => ?_
    · simp only [PartM.cells, List.mem_cons, List.mem_nil_iff, or_false] at hu
      rcases hu with rfl | rfl | rfl | rfl <;> rfl
    have g06 : Grew w0.heap.size tPart 4 w q t d w6 q6 (t + 1) d6 (partCells (L ++ [⟨x.kind, x.int, x.text, (m : Int)⟩])) := by
      have := (g6.after h5).after h1
      rw [partCells_app]
      simpa using this
    have lo : ∀ {w : World} {q : Option Addr} {t d : Nat} {L : List PartM}, PRow w w0.heap.size q t d L → ∀ k, rowS q t d k → w0.heap.size ≤ k := fun h k hk => (Row.lt h hk).1
    have hB6 : Blk w6 w.heap.size (cellsV x p m c) 52 := (B.ch h5 (fun h => h)).ch g6.ch (fun h => Row.ne R5 (B.ch h5 (fun h => h)) (by decide) h)
    have hp0 : flatP x = ⟨x.kind, x.int, x.text, (m : Int)⟩ :: flatL x.items := by rw [flatP_def, hxl]
    refine loop_i mixed m120_33 s120_33 (by kernel_rfl) (by kernel_rfl)
      (fun (v : (Option Addr × Nat × Nat) × Int × Unit) w' => ∃ (i : Nat) (L' : List PartM), v.2.1 = i ∧ i ≤ m ∧ v.1.2.1 = L'.length ∧ Grew w0.heap.size tPart 4 w q t d w' v.1.1 v.1.2.1 v.1.2.2 (partCells L') ∧ Blk w' w.heap.size (cellsV x p m c) 52 ∧ L' = L ++ ⟨x.kind, x.int, x.text, (m : Int)⟩ :: flatL (x.items.take i) ∧ L'.length ≤ 12 ∧ partL (L.length + 1) depth x.items = partL L'.length depth (x.items.drop i)) (fun (v : (Option Addr × Nat × Nat) × Int × Unit) _ => m - v.2.1.toNat) ((q6, t + 1, d6), 0, ()) rfl ⟨0, _, rfl, by omega, by simp [hlt], g06, hB6, by simp [flatL], by simp; omega, by simp⟩ ?_
    intro v g w7 hv
    obtain ⟨⟨q7, t7, d7⟩, i', ⟨⟩⟩ := v
    dsimp only at hv
    obtain ⟨i, L7, rfl, him, ht7, g7, B7, hL7, hL12, hpl⟩ := hv
    rw [t120_33]
    dsimp only
    refine ld_sl (B7.cell 3) ?_
    dsimp only
    have R7 : PRow w7 w0.heap.size q7 t7 d7 L7 := g7.own
    have W7 : Ch (w0.heap.size ≤ ·) w0 w7 := hw.trans (g7.ch.mono fun k hk => lo hR k hk)
    refine br_both (fun e => ?_) fun e => ?_
    · have hi : i < m := by have := lt_t e; omega
      obtain ⟨y, hy⟩ : ∃ u, x.items[i]? = some u := ⟨_, List.getElem?_eq_getElem (by omega)⟩
      obtain ⟨ad, yp, ym, yc, hpa, cy, vy⟩ := hx.get hy
      have hsz := VT.size_lt hy
      have hdep : depth < 3 := by
        have : x.kind = 3 := Decidable.byContradiction fun h => hk3 ⟨by omega, h⟩
        omega
      subst hpa
      refine ld_sl (B7.cell 3) ?_
      dsimp only
      refine ix_i (by omega) (by omega) ?_
      rw [Int.toNat_natCast]
      refine ld_int (upCell W7 cy.c0) (ld_int (upCell W7 cy.c1) (ld_str (upCell W7 cy.c2) (ld_sl (upCell W7 cy.c3) ?_)))
      have hwd : IntKind.i64.wrap (depth + 1) = depth + 1 := wrap_in (by omega) (by omega)
      have hwi : IntKind.i64.wrap ((i : Int) + 1) = ((i + 1 : Nat) : Int) := wrap_succ (by omega) (by omega)
      rw [hwd, hwi]
      refine cl_i (ih y yp ym yc (depth + 1) L7 q7 t7 d7 w7 (by omega) vy W7 R7 hL12 (by omega) (by omega)) ?_
      rintro e8 w8 ⟨L8, q8, d8, rfl, g8, hok⟩
      have hdr : x.items.drop i = y :: x.items.drop (i + 1) := by
        obtain ⟨hlt', hye⟩ := List.getElem?_eq_some_iff.1 hy
        rw [List.drop_eq_getElem_cons hlt', hye]
      rw [hdr] at hpl
      simp only [partL] at hpl
      refine ⟨((q8, L8.length, d8), (partV L7.length (depth + 1) y).1, ()), rfl, br_both (fun e => ?_) fun e => ?_⟩
      · have e := ne_t e
        rw [if_pos e] at hpl
        refine ⟨((q8, L8.length, d8), _, ()), rfl, fun g => ?_⟩
        rw [hpl]
        exact ⟨L8, q8, d8, rfl, g7.trans g8, fun h => absurd h e⟩
      · have e := ne_f e
        rw [if_neg (fun h => h e)] at hpl
        obtain ⟨hL8, hn8⟩ := hok e
        have h8 : L8.length ≤ 12 := by
          have := (partV_bound y L7.length (depth + 1) (by omega) (by omega)).2.2 e
          omega
        rw [← hn8] at hpl
        refine ⟨((q8, L8.length, d8), ((i + 1 : Nat) : Int), ()), rfl, ⟨i + 1, L8, rfl, by omega, rfl, g7.trans g8, B7.ch g8.ch (fun h => Row.ne R7 B7 (by decide) h), ?_, h8, hpl⟩, by dsimp only; omega⟩
        · rw [hL8, hL7, List.take_add_one, hy, flatL_app, List.append_assoc]
          simp [flatL]
    · have hi : i = m := by have := lt_f e; omega
      refine ⟨rfl, ((q7, t7, d7), ()), rfl, fun g => ?_⟩
      rw [List.drop_of_length_le (by omega)] at hpl
      rw [List.take_of_length_le (by omega)] at hL7
      rw [hpl]
      subst ht7
      exact ⟨L7, q7, d7, rfl, g7, fun _ => ⟨by rw [hL7, hp0], rfl⟩⟩
/-- Check. -/
theorem chk2_any (x : VT) (p : Option Addr) (m c : Nat) (w : World) (hx : IsV w x p m c) :
    Calls Tryz.prog 90 #[valV x p m c] w fun e w' => e = .returned (.int .i64 (checkV x)) ∧ Ch No w w' := by
  refine calls_of_fnT mixed Tryz.func90 (s := s90) ?_
  unfold valV
  rw [t90]
  refine nw fun w1 h1 z1 (B : Blk w1 _ (cellsV x p m c) 52) => ?_
  refine ld_v B ?_
  refine cl_i (flat_any w1 _ x p m c 0 [] none 0 0 w1 (Nat.lt_succ_self _) (hx.no h1) (Ch.refl _ _) (Row.nil _ _ _ _) (by simp) (by omega) (by omega)) ?_
  rintro e w2 ⟨L, q, d, rfl, g, _⟩
  refine ⟨((q, L.length, d), _, ()), rfl, rfl, h1.trans (g.ch.mono fun k hk => ?_)⟩
  unfold rowS at hk
  simp [Value.ownBlock] at hk
/-- Parts at a place. -/
def AtP (w : World) (p : Option Addr) (n : Nat) (L : List PartM) : Prop := L.length = n ∧ (0 < n → ∃ g o, p = some ⟨g, o, none⟩ ∧ ∀ (j : Nat) (x : PartM), L[j]? = some x → w.cell? ⟨g, o + j * 4, none⟩ = some (.int .i64 x.kind) ∧ w.cell? ⟨g, o + j * 4 + 1, none⟩ = some (.int .i64 x.int) ∧ w.cell? ⟨g, o + j * 4 + 2, none⟩ = some (.string x.text) ∧ w.cell? ⟨g, o + j * 4 + 3, none⟩ = some (.int .i64 x.n))
theorem AtP.keep {S : Nat → Prop} {w w' : World} {p : Option Addr} {n : Nat} {L : List PartM} (h : AtP w p n L) (hc : Ch S w w') (hS : ∀ g o, p = some ⟨g, o, none⟩ → ¬ S g) : AtP w' p n L := ⟨h.1, fun hn => by
  obtain ⟨g, o, e, hj⟩ := h.2 hn
  have hs := hS g o e
  refine ⟨g, o, e, fun j x hx => ?_⟩
  obtain ⟨h1, h2, h3, h4⟩ := hj j x hx
  exact ⟨hc.cellv h1 hs, hc.cellv h2 hs, hc.cellv h3 hs, hc.cellv h4 hs⟩⟩
theorem AtP.no {w w' : World} {p : Option Addr} {n : Nat} {L : List PartM} (h : AtP w p n L) (hc : Ch No w w') : AtP w' p n L := h.keep hc fun _ _ _ h => h
theorem part_cell : ∀ (L : List PartM) (i r : Nat) (y : PartM), L[i]? = some y → r < 4 → (partCells L)[i * 4 + r]? = y.cells[r]?
  | [], i, _, _, h, _ => by simp at h
  | z :: acc, 0, r, y, h, hr => by
    simp at h
    subst h
    unfold partCells
    rw [List.flatMap_cons, Nat.zero_mul, Nat.zero_add, List.getElem?_append_left (by simpa [PartM.cells] using hr)]
  | z :: acc, i + 1, r, y, h, hr => by
    have hl : (PartM.cells z).length = 4 := rfl
    unfold partCells
    rw [List.flatMap_cons, List.getElem?_append_right (by omega), hl, show (i + 1) * 4 + r - 4 = i * 4 + r by omega]
    exact part_cell acc i r y (by simpa using h) hr
theorem PRow.at {w : World} {base : Nat} {q : Option Addr} {t d : Nat} {L : List PartM} (h : PRow w base q t d L) : AtP w q t L := by
  refine ⟨PRow.len h, fun hn => ?_⟩
  obtain ⟨g, e, _, hc⟩ := Row.get h hn
  refine ⟨g, 0, e, fun j x hx => ?_⟩
  have cell : ∀ r v, r < 4 → x.cells[r]? = some v → w.cell? ⟨g, 0 + j * 4 + r, none⟩ = some v := fun r v hr hv => by
    rw [Nat.zero_add]
    exact hc _ _ (by rw [part_cell L j r x hx hr]; exact hv)
  exact ⟨cell 0 _ (by omega) rfl, cell 1 _ (by omega) rfl, cell 2 _ (by omega) rfl, cell 3 _ (by omega) rfl⟩
/-- parts. -/
theorem parts_any (x : VT) (p : Option Addr) (m c : Nat) (w : World) (hx : IsV w x p m c) :
    Calls Tryz.prog 92 #[valV x p m c] w fun e w' => Ch No w w' ∧ ∃ q t d, e = .returned (.slice q t d) ∧ AtP w' q t (flatP (validV x)) := by
  refine calls_of_fnT mixed Tryz.func92 (s := s92) ?_
  unfold valV
  rw [t92]
  refine nw fun w1 h1 z1 (B : Blk w1 _ (cellsV x p m c) 52) => ?_
  refine ld_v B ?_
  refine cl_i (flat_any w1 _ x p m c 0 [] none 0 0 w1 (Nat.lt_succ_self _) (hx.no h1) (Ch.refl _ _) (Row.nil _ _ _ _) (by simp) (by omega) (by omega)) ?_
  rintro e w2 ⟨L, q, d, rfl, g, hok⟩
  have h2 : Ch No w1 w2 := g.ch.mono fun k hk => by
    unfold rowS at hk
    simp [Value.ownBlock] at hk
  have hck : (partV 0 0 x).1 = checkV x := rfl
  unfold validV
  refine ⟨((q, L.length, d), _, ()), rfl, br_both (fun e => ?_) fun e => ?_⟩
  · have e : checkV x ≠ 0 := ne_t e
    rw [if_neg e]
    refine nw fun w3 h3 z3 b3 => ⟨(h1.trans h2).trans h3, _, _, _, rfl, rfl, fun _ => ⟨_, 0, rfl, fun j y hy => ?_⟩⟩
    have hj := (List.getElem?_eq_some_iff.1 hy).1
    obtain rfl : j = 0 := by
      have : (flatP noneV).length = 1 := rfl
      omega
    obtain rfl : y = ⟨0, 0, bytesL [], 0⟩ := by
      have : (flatP noneV)[0]? = some ⟨0, 0, bytesL [], 0⟩ := rfl
      rw [this] at hy
      cases hy; rfl
    exact ⟨b3.cell 0, b3.cell 1, b3.cell 2, b3.cell 3⟩
  · have e : checkV x = 0 := ne_f e
    rw [if_pos e]
    obtain ⟨rfl, _⟩ := hok e
    have R : PRow w2 w1.heap.size q _ d (flatP x) := g.own
    exact ⟨h1.trans h2, q, _, d, rfl, R.at⟩
end Go.Proofs.YtjlmkahagcojcaaGreatDoor.V
