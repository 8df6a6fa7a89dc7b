/- Rows of numbers; Build's checks of ports and pairs. -/
import Derived.Test.YtkebljkdkaagfaaGreatDoorShb
import Derived.Test.YtkebljkdkaagfaaGreatDoorSme
namespace Go.Proofs.YtkebljkdkaagfaaGreatDoor.S
open Go Tr
set_option maxRecDepth 100000
set_option maxHeartbeats 2000000
/-! the tree of function 44 -/
abbrev fx44_1 (qa0 : Option Addr) (qn0 : Nat) (qc0 : Nat) (qx1 : Int) (qx2 : Int) : List (Tmp × Value) := [(0, .slice qa0 qn0 qc0), (1, .int .i64 qx1), (2, .int .i64 qx2), (7, .int .i64 (↑qn0 : Int))]
abbrev mx44_1 : List (Tmp × Comp) := [(20, .leaf .bool)]
def s44_1 : Script := .sym (.lit (.lit (.lit .nil))) (.lit (.lit (.lit .nil)))
theorem t44_1 (qa0 : Option Addr) (qn0 : Nat) (qc0 : Nat) (qx1 : Int) (qx2 : Int) (gg1 : Nat → Value) : pieceT Tryz.prog (at_ Tryz.f44 [1, 1, 0, 0]) 38 (fx44_1 qa0 qn0 qc0 qx1 qx2) gg1 (mx44_1.map (·.1)) [] [] s44_1 = .br (Decidable.decide ((↑qn0 : Int) < qx1)) (.fin .normal [(20, .bool true)]) (.fin .normal [(20, .bool (Decidable.decide ((↑qn0 : Int) > qx2)))]) := by kernel_rfl
abbrev fx44_4 (qa0 : Option Addr) (qn0 : Nat) (qc0 : Nat) (n3 : Nat) : List (Tmp × Value) := [(7, .int .i64 (↑qn0 : Int)), (8, .pointer (some ⟨n3, 0, none⟩)), (21, .slice qa0 qn0 qc0), (22, .int .i64 (↑qn0 : Int))]
abbrev m44_4 : List (Tmp × Comp) := [(23, .leaf (.int .i64))]
abbrev mx44_4 : List (Tmp × Comp) := []
abbrev mr44_4 : List (Tmp × Comp) := [(6, .leaf .bool)]
def s44_4 : Script := .sym (.ix (.ld (.int .i64) (.sym (.lit (.lit (.lit (.lit .nil)))) (.lit (.ix (.lit (.ld .bool (.lit (.sym .nil (.ix .nil)))))))))) .nil
theorem t44_4 (qa0 : Option Addr) (qn0 : Nat) (qc0 : Nat) (n3 : Nat) (x_23 : Int) (gg4 : Nat → Value) : pieceT Tryz.prog (at_ Tryz.f44 [1, 1, 1, 1, 0, 1, 0, 0]) 38 (fx44_4 qa0 qn0 qc0 n3 ++ mvals m44_4 (x_23, ())) gg4 (m44_4.map (·.1)) (mx44_4.map (·.1)) (mr44_4.map (·.1)) s44_4 = .br (Decidable.decide (x_23 < (↑qn0 : Int))) (.idx qa0 x_23 qn0 1 (fun a5 => .load a5 (.int .i64) (fun x6 => .br (Decidable.decide (x6 ≥ (↑qn0 : Int))) (.fin .ret [(6, .bool false)]) (.idx (some ⟨n3, 0, none⟩) x6 4 1 (fun a7 => .load a7 .bool (fun b8 => .br b8 (.fin .ret [(6, .bool false)]) (.idx (some ⟨n3, 0, none⟩) x6 4 1 (fun a9 => .store a9 (.bool true) (.fin .normal [(23, .int .i64 (IntKind.i64.wrap (x_23 + 1)))]))))))))) (.fin (.exit 0) []) := by kernel_rfl
def s44 : Script := .ct 3 [0, 1, 2, 7] mx44_1 (.sym .nil (.lp 0 [7, 8, 21, 22] [23] mx44_4 mr44_4 .nil .nil))
theorem t44 (qa0 : Option Addr) (qn0 : Nat) (qc0 : Nat) (qx1 : Int) (qx2 : Int) : fnT Tryz.prog Tryz.f44 #[.slice qa0 qn0 qc0, .int .i64 qx1, .int .i64 qx2] s44 = .cut (at_ Tryz.f44 [1, 1, 0, 0]) 38 (fx44_1 qa0 qn0 qc0 qx1 qx2) mx44_1 (fun u2 g2 => .br u2.1 (.done (.returned (.bool false))) (.new (.cells #[.bool false, .bool false, .bool false, .bool false] 92 (0, 0)) (fun n3 => .loop (at_ Tryz.f44 [1, 1, 1, 1, 0, 1, 0, 0]) 38 (fx44_4 qa0 qn0 qc0 n3) [(23, .int .i64 0)] mx44_4 mr44_4 0 (fun u10 g10 => .done (.returned (.bool true))) (fun u11 g11 => .done (.returned (.bool u11.1)))))) := by kernel_rfl
/-! the tree of function 35 -/
abbrev fx35_3 (n1 : Nat) (l2 : Option Addr × Nat × Nat) : List (Tmp × Value) := [(1, .pointer (some ⟨n1, 0, none⟩)), (11, .slice l2.1 l2.2.1 l2.2.2), (12, .int .i64 (↑l2.snd.fst : Int))]
abbrev m35_3 : List (Tmp × Comp) := [(13, .leaf (.int .i64))]
abbrev mx35_3 : List (Tmp × Comp) := []
abbrev mr35_3 : List (Tmp × Comp) := [(2, .leaf (.int .i64))]
abbrev fx35_11 (n1 : Nat) (l2 : Option Addr × Nat × Nat) (x_13 : Int) (gg3 : Nat → Value) (n9 : Nat) (l10 : Option Addr × Nat × Nat) : List (Tmp × Value) := [(1, .pointer (some ⟨n1, 0, none⟩)), (2, gg3 2), (3, .int .i64 x_13), (4, .pointer (some ⟨n9, 0, none⟩)), (11, .slice l2.1 l2.2.1 l2.2.2), (12, .int .i64 (↑l2.snd.fst : Int)), (13, .int .i64 x_13), (19, .slice l10.1 l10.2.1 l10.2.2), (20, .int .i64 (↑l10.snd.fst : Int))]
abbrev m35_11 : List (Tmp × Comp) := [(5, .leaf .sl), (6, .leaf .sl), (21, .leaf (.int .i64))]
abbrev mx35_11 : List (Tmp × Comp) := [(5, .leaf .sl), (6, .leaf .sl)]
abbrev mr35_11 : List (Tmp × Comp) := []
def s35_11 : Script := .sym (.ix (.ld (.int .i64) (.ld (.int .i64) (.ld (.int .i64) (.ld (.int .i64) (.ld (.int .i64) (.sym (.ld (.int .i64) (.nop (.rn (.one (.leaf .sl)) (.ld (.int .i64) (.sym (.ld (.int .i64) (.nop (.rn (.one (.leaf .sl)) .nil))) .nil))))) (.ld (.int .i64) (.sym (.ld (.int .i64) (.nop (.rn (.one (.leaf .sl)) .nil))) .nil))))))))) .nil
theorem t35_11 (n1 : Nat) (l2 : Option Addr × Nat × Nat) (x_13 : Int) (gg3 : Nat → Value) (n9 : Nat) (l10 : Option Addr × Nat × Nat) (l_5 : Option Addr × Nat × Nat) (l_6 : Option Addr × Nat × Nat) (x_21 : Int) (gg11 : Nat → Value) : pieceT Tryz.prog (at_ Tryz.f35 [1, 0, 1, 0, 0, 1, 1, 0, 0, 1, 1, 0, 1, 0, 0]) 66 (fx35_11 n1 l2 x_13 gg3 n9 l10 ++ mvals m35_11 (l_5, l_6, x_21, ())) gg11 (m35_11.map (·.1)) (mx35_11.map (·.1)) (mr35_11.map (·.1)) s35_11 = .br (Decidable.decide (x_21 < (↑l10.snd.fst : Int))) (.idx l10.1 x_21 l10.2.1 4 (fun a12 => .load a12 (.int .i64) (fun x13 => .load (a12.add 1) (.int .i64) (fun x14 => .load (a12.add 2) (.int .i64) (fun x15 => .load (a12.add 3) (.int .i64) (fun x16 => .new (.cells #[.int .i64 0, .int .i64 0, .int .i64 0, .int .i64 0] 39 (0, 0)) (fun n17 => .store ⟨n17, 0, none⟩ (.int .i64 x13) (.store ⟨n17, 1, none⟩ (.int .i64 x14) (.store ⟨n17, 2, none⟩ (.int .i64 x15) (.store ⟨n17, 3, none⟩ (.int .i64 x16) (.load ⟨n17, 2, none⟩ (.int .i64) (fun x18 => .br (x18 == x_13) (.load ⟨n17, 3, none⟩ (.int .i64) (fun x19 => .new (.cells #[.int .i64 x19] 3 (0, 0)) (fun n20 => .run (builtin .append #[29, 29] 29 #[false, false] #[.slice l_5.1 l_5.2.1 l_5.2.2, .slice (some ⟨n20, 0, none⟩) 1 1]) (.one (.leaf .sl)) (fun l21 => .load ⟨n17, 0, none⟩ (.int .i64) (fun x22 => .br (x22 == x_13) (.load ⟨n17, 1, none⟩ (.int .i64) (fun x23 => .new (.cells #[.int .i64 x23] 3 (0, 0)) (fun n24 => .run (builtin .append #[29, 29] 29 #[false, false] #[.slice l_6.1 l_6.2.1 l_6.2.2, .slice (some ⟨n24, 0, none⟩) 1 1]) (.one (.leaf .sl)) (fun l25 => .fin .normal [(5, .slice l21.1 l21.2.1 l21.2.2), (6, .slice l25.1 l25.2.1 l25.2.2), (21, .int .i64 (IntKind.i64.wrap (x_21 + 1)))])))) (.fin .normal [(5, .slice l21.1 l21.2.1 l21.2.2), (6, .slice l_6.1 l_6.2.1 l_6.2.2), (21, .int .i64 (IntKind.i64.wrap (x_21 + 1)))])))))) (.load ⟨n17, 0, none⟩ (.int .i64) (fun x26 => .br (x26 == x_13) (.load ⟨n17, 1, none⟩ (.int .i64) (fun x27 => .new (.cells #[.int .i64 x27] 3 (0, 0)) (fun n28 => .run (builtin .append #[29, 29] 29 #[false, false] #[.slice l_6.1 l_6.2.1 l_6.2.2, .slice (some ⟨n28, 0, none⟩) 1 1]) (.one (.leaf .sl)) (fun l29 => .fin .normal [(5, .slice l_5.1 l_5.2.1 l_5.2.2), (6, .slice l29.1 l29.2.1 l29.2.2), (21, .int .i64 (IntKind.i64.wrap (x_21 + 1)))])))) (.fin .normal [(5, .slice l_5.1 l_5.2.1 l_5.2.2), (6, .slice l_6.1 l_6.2.1 l_6.2.2), (21, .int .i64 (IntKind.i64.wrap (x_21 + 1)))]))))))))))))))) (.fin (.exit 2) [(5, .slice l_5.1 l_5.2.1 l_5.2.2), (6, .slice l_6.1 l_6.2.1 l_6.2.2)]) := by kernel_rfl
def s35_3 : Script := .sym (.ix (.ld .str (.ld (.int .i64) (.ld (.int .i64) (.ld .sl (.ld .sl (.lp 2 [1, 2, 3, 4, 11, 12, 13, 19, 20] [5, 6, 21] mx35_11 mr35_11 (.ld (.int .i64) (.ix (.ld (.int .i64) (.ld (.int .i64) (.ld (.int .i64) (.ld (.int .i64) (.ld (.int .i64) (.ld (.int .i64) (.ld (.int .i64) (.ld (.int .i64) (.ld (.int .i64) (.cl (.one (.leaf .bool)) (.sym (.lit (.lit (.lit (.lit (.lit (.lit (.lit (.lit .nil)))))))) (.lit (.lit (.ld (.int .i64) (.lit (.lit (.ld (.int .i64) (.lit (.cl (.one (.leaf .bool)) (.lit (.lit (.sym .nil .nil)))))))))))))))))))))))) .nil))))))) .nil
theorem t35_3 (n1 : Nat) (l2 : Option Addr × Nat × Nat) (x_13 : Int) (gg3 : Nat → Value) : pieceT Tryz.prog (at_ Tryz.f35 [1, 0, 1, 0, 0]) 66 (fx35_3 n1 l2 ++ mvals m35_3 (x_13, ())) gg3 (m35_3.map (·.1)) (mx35_3.map (·.1)) (mr35_3.map (·.1)) s35_3 = .br (Decidable.decide (x_13 < (↑l2.snd.fst : Int))) (.idx l2.1 x_13 l2.2.1 4 (fun a4 => .load a4 .str (fun s5 => .load (a4.add 1) (.int .i64) (fun x6 => .load (a4.add 2) (.int .i64) (fun x7 => .load (a4.add 3) .sl (fun l8 => .new (.cells #[.string (bytesL []), .int .i64 0, .int .i64 0, .slice none 0 0] 46 (0, 0)) (fun n9 => .store ⟨n9, 0, none⟩ (.string s5) (.store ⟨n9, 1, none⟩ (.int .i64 x6) (.store ⟨n9, 2, none⟩ (.int .i64 x7) (.store ⟨n9, 3, none⟩ (.slice l8.1 l8.2.1 l8.2.2) (.load ⟨n1, 2, none⟩ .sl (fun l10 => .loop (at_ Tryz.f35 [1, 0, 1, 0, 0, 1, 1, 0, 0, 1, 1, 0, 1, 0, 0]) 66 (fx35_11 n1 l2 x_13 gg3 n9 l10) [(5, .slice none 0 0), (6, .slice none 0 0), (21, .int .i64 0)] mx35_11 mr35_11 2 (fun u30 g30 => .load ⟨n9, 1, none⟩ (.int .i64) (fun x31 => .idx (some ⟨0, 0, none⟩) x31 14 7 (fun a32 => .load a32 (.int .i64) (fun x33 => .load (a32.add 1) (.int .i64) (fun x34 => .load (a32.add 2) (.int .i64) (fun x35 => .load (a32.add 3) (.int .i64) (fun x36 => .load (a32.add 4) (.int .i64) (fun x37 => .load (a32.add 5) (.int .i64) (fun x38 => .load (a32.add 6) (.int .i64) (fun x39 => .new (.cells #[.int .i64 0, .int .i64 0, .int .i64 0, .int .i64 0, .int .i64 0, .int .i64 0, .int .i64 0] 72 (0, 0)) (fun n40 => .store ⟨n40, 0, none⟩ (.int .i64 x33) (.store ⟨n40, 1, none⟩ (.int .i64 x34) (.store ⟨n40, 2, none⟩ (.int .i64 x35) (.store ⟨n40, 3, none⟩ (.int .i64 x36) (.store ⟨n40, 4, none⟩ (.int .i64 x37) (.store ⟨n40, 5, none⟩ (.int .i64 x38) (.store ⟨n40, 6, none⟩ (.int .i64 x39) (.load ⟨n40, 0, none⟩ (.int .i64) (fun x41 => .load ⟨n40, 1, none⟩ (.int .i64) (fun x42 => .call 44 #[.slice u30.1.1 u30.1.2.1 u30.1.2.2, .int .i64 x41, .int .i64 x42] (.one (.leaf .bool)) (fun b43 => .br (!b43) (.fin .ret [(2, .int .i64 x_13)]) (.load ⟨n40, 2, none⟩ (.int .i64) (fun x44 => .load ⟨n40, 3, none⟩ (.int .i64) (fun x45 => .call 44 #[.slice u30.2.1.1 u30.2.1.2.1 u30.2.1.2.2, .int .i64 x44, .int .i64 x45] (.one (.leaf .bool)) (fun b46 => .br (!b46) (.fin .ret [(2, .int .i64 x_13)]) (.fin .normal [(13, .int .i64 (IntKind.i64.wrap (x_13 + 1)))])))))))))))))))))))))))))) (fun u47 g47 => .stuck))))))))))))) (.fin (.exit 0) []) := by kernel_rfl
def s35 : Script := .ld .sl (.lp 0 [1, 11, 12] [13] mx35_3 mr35_3 .nil .nil)
theorem t35 (qx0_0 : Int) (qa0_1 : Option Addr) (qn0_1 : Nat) (qc0_1 : Nat) (qa0_2 : Option Addr) (qn0_2 : Nat) (qc0_2 : Nat) : fnT Tryz.prog Tryz.f35 #[.agg #[.int .i64 qx0_0, .slice qa0_1 qn0_1 qc0_1, .slice qa0_2 qn0_2 qc0_2]] s35 = .new (.cells #[.int .i64 qx0_0, .slice qa0_1 qn0_1 qc0_1, .slice qa0_2 qn0_2 qc0_2] 25 (0, 0)) (fun n1 => .load ⟨n1, 1, none⟩ .sl (fun l2 => .loop (at_ Tryz.f35 [1, 0, 1, 0, 0]) 66 (fx35_3 n1 l2) [(13, .int .i64 0)] mx35_3 mr35_3 0 (fun u48 g48 => .done (.returned (.int .i64 (-1)))) (fun u49 g49 => .done (.returned (.int .i64 u49.1))))) := by kernel_rfl
/-! the tree of function 36 -/
abbrev fx36_3 (n1 : Nat) (l2 : Option Addr × Nat × Nat) : List (Tmp × Value) := [(1, .pointer (some ⟨n1, 0, none⟩)), (6, .slice l2.1 l2.2.1 l2.2.2), (7, .int .i64 (↑l2.snd.fst : Int))]
abbrev m36_3 : List (Tmp × Comp) := [(8, .leaf (.int .i64))]
abbrev mx36_3 : List (Tmp × Comp) := []
abbrev mr36_3 : List (Tmp × Comp) := [(2, .leaf (.int .i64))]
def s36_3 : Script := .sym (.ix (.ld (.int .i64) (.ld (.int .i64) (.ld (.int .i64) (.ld (.int .i64) (.qt (.ld (.int .i64) (.ld .sl (.ld .sl (.ld (.int .i64) (.ld (.int .i64) (.ld (.int .i64) (.ld (.int .i64) (.cl (.one (.leaf .bool)) (.ld .sl (.ld (.int .i64) (.ix (.ld (.int .i64) (.sym (.lit (.ld (.int .i64) (.lit (.lit (.sym .nil .nil))))) (.lit (.lit (.lit (.sym .nil .nil))))))))))))))))))))))) .nil
theorem t36_3 (n1 : Nat) (l2 : Option Addr × Nat × Nat) (x_8 : Int) (gg3 : Nat → Value) : pieceT Tryz.prog (at_ Tryz.f36 [1, 0, 1, 0, 0]) 32 (fx36_3 n1 l2 ++ mvals m36_3 (x_8, ())) gg3 (m36_3.map (·.1)) (mx36_3.map (·.1)) (mr36_3.map (·.1)) s36_3 = .br (Decidable.decide (x_8 < (↑l2.snd.fst : Int))) (.idx l2.1 x_8 l2.2.1 4 (fun a4 => .load a4 (.int .i64) (fun x5 => .load (a4.add 1) (.int .i64) (fun x6 => .load (a4.add 2) (.int .i64) (fun x7 => .load (a4.add 3) (.int .i64) (fun x8 => .new (.cells #[.int .i64 0, .int .i64 0, .int .i64 0, .int .i64 0] 39 (0, 0)) (fun n9 => .store ⟨n9, 0, none⟩ (.int .i64 x5) (.store ⟨n9, 1, none⟩ (.int .i64 x6) (.store ⟨n9, 2, none⟩ (.int .i64 x7) (.store ⟨n9, 3, none⟩ (.int .i64 x8) (.drawn (.load ⟨n1, 0, none⟩ (.int .i64) (fun x10 => .load ⟨n1, 1, none⟩ .sl (fun l11 => .load ⟨n1, 2, none⟩ .sl (fun l12 => .load ⟨n9, 0, none⟩ (.int .i64) (fun x13 => .load ⟨n9, 1, none⟩ (.int .i64) (fun x14 => .load ⟨n9, 2, none⟩ (.int .i64) (fun x15 => .load ⟨n9, 3, none⟩ (.int .i64) (fun x16 => .call 38 #[.agg #[.int .i64 x10, .slice l11.1 l11.2.1 l11.2.2, .slice l12.1 l12.2.1 l12.2.2], .agg #[.int .i64 x13, .int .i64 x14, .int .i64 x15, .int .i64 x16]] (.one (.leaf .bool)) (fun b17 => .load ⟨n1, 1, none⟩ .sl (fun l18 => .load ⟨n9, 0, none⟩ (.int .i64) (fun x19 => .idx l18.1 x19 l18.2.1 4 (fun a20 => .load (a20.add 1) (.int .i64) (fun x21 => .br (x21 == 12) (.load ⟨n9, 1, none⟩ (.int .i64) (fun x22 => .undrawn (.br (!b17 == (x22 == 0)) (.fin .ret [(2, .int .i64 x_8)]) (.fin .normal [(8, .int .i64 (IntKind.i64.wrap (x_8 + 1)))])))) (.undrawn (.br (!b17 == Bool.false) (.fin .ret [(2, .int .i64 x_8)]) (.fin .normal [(8, .int .i64 (IntKind.i64.wrap (x_8 + 1)))]))))))))))))))))))))))))))) (.fin (.exit 0) []) := by kernel_rfl
def s36 : Script := .ld .sl (.lp 0 [1, 6, 7] [8] mx36_3 mr36_3 .nil .nil)
theorem t36 (qx0_0 : Int) (qa0_1 : Option Addr) (qn0_1 : Nat) (qc0_1 : Nat) (qa0_2 : Option Addr) (qn0_2 : Nat) (qc0_2 : Nat) : fnT Tryz.prog Tryz.f36 #[.agg #[.int .i64 qx0_0, .slice qa0_1 qn0_1 qc0_1, .slice qa0_2 qn0_2 qc0_2]] s36 = .new (.cells #[.int .i64 qx0_0, .slice qa0_1 qn0_1 qc0_1, .slice qa0_2 qn0_2 qc0_2] 25 (0, 0)) (fun n1 => .load ⟨n1, 2, none⟩ .sl (fun l2 => .loop (at_ Tryz.f36 [1, 0, 1, 0, 0]) 32 (fx36_3 n1 l2) [(8, .int .i64 0)] mx36_3 mr36_3 0 (fun u23 g23 => .done (.returned (.int .i64 (-1)))) (fun u24 g24 => .done (.returned (.int .i64 u24.1))))) := by kernel_rfl
abbrev tInt : TypeId := 3
abbrev tInts : TypeId := 29
/-! ### Rows of numbers -/
abbrev intC (x : Int) : Value := .int .i64 x
abbrev IRow (w : World) (base : Nat) (p : Option Addr) (n c : Nat) (l : List Int) : Prop := Row w base tInt 1 p n c (l.map intC)
theorem infoInt : (Tryz.prog.info? tInt).map (fun i => (i.zero, i.size, i.bytes)) = some (some (.int .i64 0), 1, 8) := by kernel_rfl
/-- Numbers that stand somewhere. -/
def AtI (w : World) (a : Option Addr) (l : List Int) : Prop := ∀ (j : Nat) (x : Int), l[j]? = some x → ∃ ad, a = some ad ∧ w.cell? (ad.add j) = some (.int .i64 x)
theorem AtI.of {w w' : World} {a : Option Addr} {l : List Int} (h : AtI w a l) (hc : ∀ a v, w.cell? a = some v → w'.cell? a = some v) : AtI w' a l := fun j s hs => by
  obtain ⟨xa, h6, h7⟩ := h j s hs
  exact ⟨xa, h6, hc _ _ h7⟩
theorem AtI.ch {w w' : World} {a : Option Addr} {l : List Int} (h : AtI w a l) (hc : Ch No w w') : AtI w' a l := h.of fun _ _ ha => hc.cellv ha (fun h => h)
theorem IRow.len {w : World} {base : Nat} {p : Option Addr} {n c : Nat} {l : List Int} (h : IRow w base p n c l) : n = l.length := by
  have := Row.len h
  rw [List.length_map, Nat.mul_one] at this
  exact this.symm
theorem IRow.atI {w : World} {base : Nat} {p : Option Addr} {n c : Nat} {l : List Int} (h : IRow w base p n c l) : AtI w p l := fun j x hx => by
  have hl := h.len
  have hj := (List.getElem?_eq_some_iff.1 hx).1
  obtain ⟨g, rfl, -, hc⟩ := Row.get h (by omega)
  exact ⟨_, rfl, by rw [addr_add, Nat.zero_add]; exact hc j _ (by rw [List.getElem?_map, hx]; rfl)⟩
section
variable {R : Ending → World → Prop} {Q : Exit → List (Tmp × Value) → World → Prop} {w : World}
/-- One number is appended. -/
theorem ap_int {K : Nat → Option Addr × Nat × Nat → T} {base : Nat} {q : Option Addr} {n c : Nat} {l : List Int} (hown : IRow w base q n c l) (hb : base ≤ w.heap.size) (x : Int) (hsz : n + 1 ≤ 1000000)
    (h : ∀ k q' c' w', Grew base tInt 1 w q n c w' q' (n + 1) c' ((l ++ [x]).map intC) → wpT Tryz.prog R Q (K k (q', n + 1, c')) .pl w') :
    wpT Tryz.prog R Q (.new (.cells #[.int .i64 x] tInt (0, 0)) (fun k => .run (builtin .append #[tInts, tInts] tInts #[false, false] #[.slice q n c, .slice (some ⟨k, 0, none⟩) 1 1]) (.one (.leaf .sl)) (K k))) .pl w := by
  refine nw (cs := [intC x]) fun w1 c1 s1 b1 => ?_
  refine ap_blk (by kernel_rfl) infoInt rfl (by omega) (Row.no hown c1) (by omega) b1 rfl (fun u hu => by rw [List.mem_singleton] at hu; rw [hu]; rfl) (by unfold maxLen; omega) (by omega) fun q' c' w' g => h _ q' c' w' ?_
  rw [List.map_append]
  exact Grew.after c1 g
end
/-- Two rows, of which one grows. -/
theorem apart_grow {base : Nat} {w w' : World} {p p' q : Option Addr} {n c n' c' m d : Nat} {l : List Int} {xs : List Value} (h : IRow w base q m d l) (hd : ∀ k, rowS p n c k → ¬ rowS q m d k) (g : Grew base tInt 1 w p n c w' p' n' c' xs) :
    IRow w' base q m d l ∧ ∀ k, rowS p' n' c' k → ¬ rowS q m d k :=
  ⟨Row.ch h g.ch fun k hq hp => hd k hp hq, fun k hk hq => by
    rcases g.lies k hk with h1 | h1
    · exact hd k h1 hq
    · have := (Row.lt h hq).2; omega⟩
theorem Grew.no {base : Nat} {w0 w w' : World} {p p' : Option Addr} {n c n' c' : Nat} {xs xs' : List Value} {e : TypeId} {z : Nat} (c0 : Ch No w0 w) (h : Row w base e z p n c xs) (hb : w0.heap.size ≤ base) (g : Grew base e z w p n c w' p' n' c' xs') : Ch No w0 w' :=
  c0.then_ g.ch fun i hi hr => by have := (Row.lt h hr).1; omega
theorem rowS_nil (k : Nat) : ¬ rowS none 0 0 k := fun h => by unfold rowS Value.ownBlock at h; cases h
/-! ### linked -/
def seenL (l : List Int) : List Value := [.bool (l.contains 0), .bool (l.contains 1), .bool (l.contains 2), .bool (l.contains 3)]
theorem seen_at {l : List Int} {x : Int} (h0 : 0 ≤ x) (h1 : x < 4) : (seenL l)[x.toNat]? = some (.bool (l.contains x)) := by
  have : x = 0 ∨ x = 1 ∨ x = 2 ∨ x = 3 := by omega
  rcases this with rfl | rfl | rfl | rfl <;> rfl
theorem seen_set {l : List Int} {x : Int} (h0 : 0 ≤ x) (h1 : x < 4) : (seenL l).set x.toNat (.bool true) = seenL (l ++ [x]) := by
  have : x = 0 ∨ x = 1 ∨ x = 2 ∨ x = 3 := by omega
  rcases this with rfl | rfl | rfl | rfl <;> simp [seenL]
theorem linked_any (w : World) (a : Option Addr) (c : Nat) (l : List Int) (lo hi : Int) (h : AtI w a l) (hpos : ∀ x ∈ l, 0 ≤ x) (hhi : hi ≤ 4) :
    Calls Tryz.prog 44 #[.slice a l.length c, .int .i64 lo, .int .i64 hi] w fun r w' => r = .returned (.bool (linkedB l lo hi)) ∧ Ch No w w' := by
  refine calls_of_fnT mixed Tryz.func44 (s := s44) ?_
  rw [t44]
  refine cut_i mixed s44_1 (fun v w' => w' = w ∧ v.1 = (decide ((l.length : Int) < lo) || decide ((l.length : Int) > hi))) (by kernel_rfl) (fun g => ?_) ?_
  · rw [t44_1]
    refine br_both (fun e => ⟨rfl, (true, ()), rfl, rfl, by rw [e]; rfl⟩) fun e => ⟨rfl, (_, ()), rfl, rfl, by rw [e]; rfl⟩
  rintro ⟨b, ⟨⟩⟩ g w' ⟨rfl, hb⟩
  dsimp only at hb
  subst hb
  refine br_both (fun e => ⟨?_, Ch.refl _ _⟩) fun e => ?_
  · unfold linkedB
    rw [Bool.or_eq_true, decide_eq_true_eq, decide_eq_true_eq] at e
    rcases e with e | e
    · rw [decide_eq_false (show ¬ lo ≤ (l.length : Int) by omega), Bool.false_and, Bool.false_and, Bool.false_and]
    · rw [decide_eq_false (show ¬ (l.length : Int) ≤ hi by omega), Bool.and_false, Bool.false_and, Bool.false_and]
  rw [Bool.or_eq_false_iff, decide_eq_false_iff_not, decide_eq_false_iff_not] at e
  obtain ⟨e1, e2⟩ := e
  have hpl : linkedB l lo hi = (l.all (fun x => decide (x < l.length)) && decide l.Nodup) := by
    unfold linkedB
    rw [decide_eq_true (show lo ≤ (l.length : Int) by omega), decide_eq_true (show (l.length : Int) ≤ hi by omega), Bool.true_and, Bool.true_and]
  refine nw (cs := seenL []) fun w1 c1 s1 b1 => ?_
  generalize hn3 : w'.heap.size = n3 at *
  refine loop_i mixed m44_4 s44_4 (by kernel_rfl) (by kernel_rfl) (fun v w2 => Ch (· = n3) w1 w2 ∧ ∃ i : Nat, v.1 = (i : Nat) ∧ i ≤ l.length ∧ Blk w2 n3 (seenL (l.take i)) 92 ∧ (∀ x ∈ l.take i, x < l.length) ∧ (l.take i).Nodup) (fun v _ => l.length - v.1.toNat) (0, ()) rfl
    ⟨Ch.refl _ _, 0, rfl, Nat.zero_le _, b1, fun x h => (by cases h), List.nodup_nil⟩ ?_
  rintro ⟨_, ⟨⟩⟩ g w2 ⟨c2, i, rfl, hi', b2, hlt, hnd⟩
  rw [t44_4]
  have hfin : ∀ w3, Ch (· = n3) w1 w3 → Ch No w' w3 := fun w3 h3 => c1.then_ h3 fun k hk e => by subst e; omega
  refine br_both (fun e => ?_) fun e => ?_
  · have e := lt_t e
    have hil : i < l.length := by omega
    obtain ⟨x, hx⟩ := some_at hil
    have hxm := List.mem_of_getElem? hx
    have hx0 := hpos x hxm
    obtain ⟨ad, rfl, hcell⟩ := h i x hx
    have hcell1 := c1.cellv hcell (fun h => h)
    have hcell2 : w2.cell? (ad.add i) = some (.int .i64 x) := (hfin w2 c2).cellv hcell (fun h => h)
    refine ix_i (by omega) (by omega) ?_
    rw [Int.toNat_natCast, Nat.mul_one]
    have htk : l.take (i + 1) = l.take i ++ [x] := by rw [List.take_add_one, hx]; rfl
    refine ld_int hcell2 (br_both (fun e3 => ?_) fun e3 => ?_)
    · have e3 := ge_t e3
      refine ⟨(false, ()), rfl, fun g => ⟨congrArg Ending.returned (congrArg Value.bool ?_), hfin w2 c2⟩⟩
      rw [hpl]
      symm
      rw [Bool.and_eq_false_iff]
      refine .inl (List.all_eq_false.2 ⟨x, hxm, ?_⟩)
      rw [decide_eq_false (by omega)]
      decide
    have e3 := ge_f e3
    have hx4 : x < 4 := by omega
    refine ix_i hx0 (by omega) ?_
    rw [addr_add, Nat.zero_add, Nat.mul_one]
    refine ld_bool ((b2.cell _).trans (seen_at hx0 hx4)) (br_both (fun e4 => ?_) fun e4 => ?_)
    · refine ⟨(false, ()), rfl, fun g => ⟨congrArg Ending.returned (congrArg Value.bool ?_), hfin w2 c2⟩⟩
      rw [hpl]
      symm
      rw [Bool.and_eq_false_iff]
      refine .inr (decide_eq_false fun hn => ?_)
      have hs : (l.take (i + 1)).Nodup := hn.sublist (List.take_sublist _ _)
      rw [htk, List.nodup_append] at hs
      exact hs.2.2 x (by simpa using e4) x (List.mem_singleton.2 rfl) rfl
    refine ix_i hx0 (by omega) ?_
    rw [addr_add, Nat.zero_add, Nat.mul_one]
    refine st_blk b2 (by show x.toNat < 4; omega) rfl fun w3 c3 s3 b3 => ?_
    rw [seen_set hx0 hx4, ← htk] at b3
    refine ⟨(((i : Nat) : Int) + 1, ()), by rw [wrap_succ (by omega) (by omega)]; rfl, ⟨c2.trans c3, i + 1, rfl, hil, b3, fun y hy => ?_, ?_⟩, by show l.length - (((i : Nat) : Int) + 1).toNat < _; omega⟩
    · rw [htk] at hy
      rcases List.mem_append.1 hy with hy | hy
      · exact hlt y hy
      · rw [List.mem_singleton.1 hy]; exact e3
    · rw [htk, List.nodup_append]
      refine ⟨hnd, by simp, fun a ha b hb => ?_⟩
      rw [List.mem_singleton] at hb
      rintro rfl
      rw [hb] at ha
      have : (l.take i).contains x = true := by simpa using ha
      rw [e4] at this
      cases this
  · have e := lt_f e
    obtain rfl : i = l.length := by omega
    rw [List.take_length] at hlt hnd
    refine ⟨rfl, (), rfl, fun g => ⟨congrArg Ending.returned (congrArg Value.bool ?_), hfin w2 c2⟩⟩
    rw [hpl, decide_eq_true hnd, Bool.and_true]
    symm
    rw [List.all_eq_true]
    exact fun x hx => decide_eq_true (hlt x hx)
/-! ### Ports -/
theorem ports_step (l : List EM) (i : Nat) (e : EM) (h : l[i]? = some e) (q : EM → Bool) (f : EM → Int) : ((l.take (i + 1)).filter q).map f = ((l.take i).filter q).map f ++ (if q e then [f e] else []) := by
  rw [List.take_add_one, h, Option.toList_some, List.filter_append, List.map_append]
  congr 1
  cases hq : q e <;> simp [List.filter, hq]
theorem need_low {k : Int} (h0 : 1 ≤ k) (h1 : k ≤ 13) : needOf k 1 ≤ 4 ∧ needOf k 3 ≤ 4 := by
  rcases kind_cases h0 h1 with rfl | rfl | rfl | rfl | rfl | rfl | rfl | rfl | rfl | rfl | rfl | rfl | rfl <;> decide
/-- The ports that have been gathered. -/
structure Gath (w3 : World) (p : PM) (t : Nat) (v : (Option Addr × Nat × Nat) × (Option Addr × Nat × Nat) × Int × Unit) (w : World) : Prop where
  ch : Ch No w3 w
  at_ : ∃ i : Nat, v.2.2.1 = (i : Nat) ∧ i ≤ p.edges.length ∧ IRow w w3.heap.size v.1.1 v.1.2.1 v.1.2.2 (((p.edges.take i).filter (inTo t)).map (·.inn)) ∧ IRow w w3.heap.size v.2.1.1 v.2.1.2.1 v.2.1.2.2 (((p.edges.take i).filter (outOf t)).map (·.out))
  apart : ∀ k, rowS v.1.1 v.1.2.1 v.1.2.2 k → ¬ rowS v.2.1.1 v.2.1.2.1 v.2.1.2.2 k
theorem badPort_any (w : World) (p : PM) (tp ep : Option Addr) (tc ec : Nat) (h : IsP w tp ep p) (hG : GlS w) (hk : ∀ t ∈ p.tasks, 1 ≤ t.kind ∧ t.kind ≤ 13)
    (he : ∀ e ∈ p.edges, (0 ≤ e.frm ∧ e.frm < p.tasks.length) ∧ (0 ≤ e.to ∧ e.to < p.tasks.length) ∧ (0 ≤ e.out ∧ e.out < 4) ∧ 0 ≤ e.inn ∧ e.inn < 4) (hen : p.edges.length ≤ 1000) : Calls Tryz.prog 35 #[planV p tp tc ep ec] w (ChkR w p.tasks.length (portBad p)) := by
  refine calls_of_fnT mixed Tryz.func35 (s := s35) ?_
  rw [t35]
  refine nw (cs := planC p tp tc ep ec) fun w1 c1 s1 b1 => ld_sl (b1.cell 1) ?_
  refine loop_i mixed m35_3 s35_3 (by kernel_rfl) (by kernel_rfl) (fun v w2 => Told p.tasks.length (portBad p) w1 v.1 w2) (fun v _ => p.tasks.length - v.1.toNat) (0, ()) rfl (Told.start _ _ _) ?_
  rintro ⟨_, ⟨⟩⟩ g w2 ⟨i, rfl, hi, c2, hall⟩
  rw [t35_3]
  dsimp only
  have htn := h.tn
  refine br_both (fun e => ?_) fun e => ?_
  · have e := lt_t e
    have hi' : i < p.tasks.length := by omega
    obtain ⟨t, ht⟩ := some_at hi'
    obtain ⟨k0, k1⟩ := hk t (List.mem_of_getElem? ht)
    obtain ⟨n1, n2⟩ := need_low k0 k1
    have h2 := (h.ch c1).ch c2
    refine tk_i h2 ht fun ta xp xc n w3 c3 hn b3 hx a3 => ?_
    have hfound : ∀ w', Ch No w3 w' → portBad p i = true → ChkR w p.tasks.length (portBad p) (.returned (.int .i64 ((i : Nat) : Int))) w' := fun w' hc hb =>
      ⟨by rw [at_some hi' hb hall], c1.trans (c2.trans (c3.trans hc))⟩
    have hbad : portBad p i = (!linkedB (insP p i) (needOf t.kind 0) (needOf t.kind 1) || !linkedB (outsP p i) (needOf t.kind 2) (needOf t.kind 3)) := by unfold portBad; rw [kindAt_of ht]
    have hG3 := hG.no (c1.trans (c2.trans c3))
    have h3 := h2.ch c3
    have b1' := (b1.ch c2 (fun h => h)).ch c3 (fun h => h)
    refine ld_sl (b1'.cell 2) ?_
    refine loop_i mixed m35_11 s35_11 (by kernel_rfl) (by kernel_rfl) (fun v w4 => Gath w3 p i v w4) (fun v _ => p.edges.length - v.2.2.1.toNat) ((none, 0, 0), (none, 0, 0), 0, ()) rfl
      ⟨Ch.refl _ _, ⟨0, rfl, Nat.zero_le _, Row.nil _ _ _ _, Row.nil _ _ _ _⟩, fun k h => absurd h (rowS_nil k)⟩ ?_
    rintro ⟨⟨q1, m1, d1⟩, ⟨q2, m2, d2⟩, _, ⟨⟩⟩ g w4 ⟨c4, ⟨j, rfl, hj, r1, r2⟩, hd⟩
    rw [t35_11]
    dsimp only at r1 r2 hd ⊢
    have l1 := r1.len
    have l2 := r2.len
    have z1 : (((p.edges.take j).filter (inTo i)).map (·.inn)).length ≤ j := by
      rw [List.length_map]
      exact Nat.le_trans (List.length_filter_le _ _) (by rw [List.length_take]; omega)
    have z2 : (((p.edges.take j).filter (outOf i)).map (·.out)).length ≤ j := by
      rw [List.length_map]
      exact Nat.le_trans (List.length_filter_le _ _) (by rw [List.length_take]; omega)
    have hc4 := c4.size
    refine br_both (fun e2 => ?_) fun e2 => ?_
    · have e2 := lt_t e2
      have hjl : j < p.edges.length := by omega
      obtain ⟨ed, hed⟩ := some_at hjl
      have hin := ports_step p.edges j ed hed (inTo i) (·.inn)
      have hout := ports_step p.edges j ed hed (outOf i) (·.out)
      have hmore : ∀ (w' : World) (v : (Option Addr × Nat × Nat) × (Option Addr × Nat × Nat)), Ch No w3 w' → IRow w' w3.heap.size v.1.1 v.1.2.1 v.1.2.2 (((p.edges.take (j + 1)).filter (inTo i)).map (·.inn)) → IRow w' w3.heap.size v.2.1 v.2.2.1 v.2.2.2 (((p.edges.take (j + 1)).filter (outOf i)).map (·.out)) →
          (∀ k, rowS v.1.1 v.1.2.1 v.1.2.2 k → ¬ rowS v.2.1 v.2.2.1 v.2.2.2 k) → ∃ u : MVars m35_11, [((5 : Tmp), Value.slice v.1.1 v.1.2.1 v.1.2.2), (6, .slice v.2.1 v.2.2.1 v.2.2.2), (21, .int .i64 (IntKind.i64.wrap (((j : Nat) : Int) + 1)))] = mvals m35_11 u ∧ (Gath w3 p i u w' ∧ p.edges.length - u.2.2.1.toNat < p.edges.length - ((j : Nat) : Int).toNat) := fun w' v hc hr1 hr2 hdd =>
        ⟨(v.1, v.2, ((j : Nat) : Int) + 1, ()), by rw [wrap_succ (by omega) (by omega)]; rfl, ⟨hc, ⟨j + 1, rfl, hjl, hr1, hr2⟩, hdd⟩, by show p.edges.length - (((j : Nat) : Int) + 1).toNat < _; omega⟩
      refine ed_i (h3.ch c4) hed fun ea n5 w5 c5 hn5 b5 => ?_
      have r1' := Row.no r1 c5
      have r2' := Row.no r2 c5
      have c35 := c4.trans c5
      have hz5 := c35.size
      refine ld_int (b5.cell 2) (br_both (fun e3 => ?_) fun e3 => ?_)
      · have e3 : ed.to = ((i : Nat) : Int) := eq_of_beq e3
        rw [if_pos (decide_eq_true e3)] at hin
        refine ld_int (b5.cell 3) (ap_int r1' (by omega) ed.inn (by omega) fun k q1' d1' w6 g6 => ?_)
        rw [← hin] at g6
        obtain ⟨r2'', hd''⟩ := apart_grow r2' hd g6
        have c36 := Grew.no c35 r1' (Nat.le_refl _) g6
        have b6 : Blk w6 n5 _ _ := b5.ch g6.ch (fun hr => Row.ne r1' b5 (by decide) hr)
        refine ld_int (b6.cell 0) (br_both (fun e4 => ?_) fun e4 => ?_)
        · have e4 : ed.frm = ((i : Nat) : Int) := eq_of_beq e4
          rw [if_pos (decide_eq_true e4)] at hout
          refine ld_int (b6.cell 1) (ap_int r2'' (by have := c36.size; omega) ed.out (by omega) fun k q2' d2' w7 g7 => ?_)
          rw [← hout] at g7
          obtain ⟨r1'', hd7⟩ := apart_grow g6.own (fun k h1 h2 => hd'' k h2 h1) g7
          exact hmore w7 ((q1', _, d1'), (q2', _, d2')) (Grew.no c36 r2'' (Nat.le_refl _) g7) r1'' g7.own (fun k h1 h2 => hd7 k h2 h1)
        · have e4 : ¬ ed.frm = ((i : Nat) : Int) := fun hh => by rw [hh] at e4; simp at e4
          rw [if_neg (fun hh => e4 (of_decide_eq_true hh)), List.append_nil] at hout
          exact hmore w6 ((q1', _, d1'), (q2, _, d2)) c36 g6.own (by rw [hout]; exact r2'') hd''
      · have e3 : ¬ ed.to = ((i : Nat) : Int) := fun hh => by rw [hh] at e3; simp at e3
        rw [if_neg (fun hh => e3 (of_decide_eq_true hh)), List.append_nil] at hin
        refine ld_int (b5.cell 0) (br_both (fun e4 => ?_) fun e4 => ?_)
        · have e4 : ed.frm = ((i : Nat) : Int) := eq_of_beq e4
          rw [if_pos (decide_eq_true e4)] at hout
          refine ld_int (b5.cell 1) (ap_int r2' (by omega) ed.out (by omega) fun k q2' d2' w7 g7 => ?_)
          rw [← hout] at g7
          obtain ⟨r1'', hd7⟩ := apart_grow r1' (fun k h1 h2 => hd k h2 h1) g7
          exact hmore w7 ((q1, _, d1), (q2', _, d2')) (Grew.no c35 r2' (Nat.le_refl _) g7) (by rw [hin]; exact r1'') g7.own (fun k h1 h2 => hd7 k h2 h1)
        · have e4 : ¬ ed.frm = ((i : Nat) : Int) := fun hh => by rw [hh] at e4; simp at e4
          rw [if_neg (fun hh => e4 (of_decide_eq_true hh)), List.append_nil] at hout
          exact hmore w5 ((q1, _, d1), (q2, _, d2)) c35 (by rw [hin]; exact r1') (by rw [hout]; exact r2') hd
    · have e2 := lt_f e2
      obtain rfl : j = p.edges.length := by omega
      rw [List.take_length] at r1 r2
      refine ⟨rfl, ((q1, m1, d1), (q2, m2, d2), ()), rfl, fun g => ?_⟩
      have b3' := b3.ch c4 (fun h => h)
      have hG4 := hG3.no c4
      refine ld_int (b3'.cell 1) (ix_i (by omega) (by omega) (ld_int (hG4.nd0 k0 k1) (ld_int (hG4.nd k0 k1 (by omega)) (ld_int (hG4.nd k0 k1 (by omega)) (ld_int (hG4.nd k0 k1 (by omega)) (ld_int (hG4.nd k0 k1 (by omega)) (ld_int (hG4.nd k0 k1 (by omega)) (ld_int (hG4.nd k0 k1 (by omega)) ?_))))))))
      refine nw (cs := [_, _, _, _, _, _, _]) fun w5 c5 s5 b5 => ?_
      refine st_blk b5 (by simp) rfl fun w6 c6 s6 b6 => st_blk b6 (by simp) rfl fun w7 c7 s7 b7 => st_blk b7 (by simp) rfl fun w8 c8 s8 b8 => st_blk b8 (by simp) rfl fun w9 c9 s9 b9 => st_blk b9 (by simp) rfl fun w10 c10 s10 b10 => st_blk b10 (by simp) rfl fun w11 c11 s11 b11 => st_blk b11 (by simp) rfl fun w12 c12 s12 b12 => ?_
      have hc : Ch No w4 w12 := c5.then_ (c6.trans (c7.trans (c8.trans (c9.trans (c10.trans (c11.trans c12)))))) (fun i hi (e : i = w4.heap.size) => by omega)
      have hins : insP p i = ((p.edges.filter (inTo i)).map (·.inn)) := rfl
      have houts : outsP p i = ((p.edges.filter (outOf i)).map (·.out)) := rfl
      rw [← hins] at r1
      rw [← houts] at r2
      have l1 := r1.len
      have l2 := r2.len
      subst l1 l2
      refine ld_int (b12.cell 0) (ld_int (b12.cell 1) (cl_i (linked_any w12 q1 d1 (insP p i) (needOf t.kind 0) (needOf t.kind 1) ((IRow.atI r1).ch hc) (fun x hx => ?_) n1) ?_))
      · obtain ⟨ee, hee, rfl⟩ := List.mem_map.1 hx
        exact (he ee (List.mem_filter.1 hee).1).2.2.2.1
      rintro r w13 ⟨rfl, c13⟩
      refine ⟨linkedB (insP p i) (needOf t.kind 0) (needOf t.kind 1), rfl, br_both (fun e5 => ?_) fun e5 => ?_⟩
      · exact ⟨((i : Nat), ()), rfl, fun g => hfound w13 (c4.trans (hc.trans c13)) (by rw [hbad, e5, Bool.true_or])⟩
      have b13 := b12.ch c13 (fun h => h)
      refine ld_int (b13.cell 2) (ld_int (b13.cell 3) (cl_i (linked_any w13 q2 d2 (outsP p i) (needOf t.kind 2) (needOf t.kind 3) (((IRow.atI r2).ch hc).ch c13) (fun x hx => ?_) n2) ?_))
      · obtain ⟨ee, hee, rfl⟩ := List.mem_map.1 hx
        exact (he ee (List.mem_filter.1 hee).1).2.2.1.1
      rintro r w14 ⟨rfl, c14⟩
      refine ⟨linkedB (outsP p i) (needOf t.kind 2) (needOf t.kind 3), rfl, br_both (fun e6 => ?_) fun e6 => ?_⟩
      · exact ⟨((i : Nat), ()), rfl, fun g => hfound w14 (c4.trans (hc.trans (c13.trans c14))) (by rw [hbad, e6, Bool.or_true])⟩
      exact ⟨(_, ()), rfl, Told.step hi' (by omega) c2 hall (c3.trans (c4.trans (hc.trans (c13.trans c14)))) (by rw [hbad, e5, e6]; rfl), Told.less hi' (by omega)⟩
  · have e := lt_f e
    obtain rfl : i = p.tasks.length := by omega
    exact ⟨rfl, (), rfl, fun g => ⟨by rw [at_none hall], c1.trans c2⟩⟩
theorem badPair_any (w : World) (p : PM) (tp ep : Option Addr) (tc ec : Nat) (h : IsP w tp ep p) (he : ∀ e ∈ p.edges, (0 ≤ e.frm ∧ e.frm < p.tasks.length) ∧ (0 ≤ e.to ∧ e.to < p.tasks.length) ∧ (0 ≤ e.out ∧ e.out < 4) ∧ 0 ≤ e.inn ∧ e.inn < 4) :
    Calls Tryz.prog 36 #[planV p tp tc ep ec] w (ChkR w p.edges.length (pairBad p)) := by
  refine calls_of_fnT mixed Tryz.func36 (s := s36) ?_
  rw [t36]
  refine nw (cs := planC p tp tc ep ec) fun w1 c1 s1 b1 => ld_sl (b1.cell 2) ?_
  refine loop_i mixed m36_3 s36_3 (by kernel_rfl) (by kernel_rfl) (fun v w2 => Told p.edges.length (pairBad p) w1 v.1 w2) (fun v _ => p.edges.length - v.1.toNat) (0, ()) rfl (Told.start _ _ _) ?_
  rintro ⟨_, ⟨⟩⟩ g w2 ⟨i, rfl, hi, c2, hall⟩
  rw [t36_3]
  dsimp only
  have hen := h.en
  refine br_both (fun e => ?_) fun e => ?_
  · have e := lt_t e
    have hi' : i < p.edges.length := by omega
    obtain ⟨t, ht⟩ := some_at hi'
    obtain ⟨⟨f0, f1⟩, ⟨t0, t1⟩, -⟩ := he t (List.mem_of_getElem? ht)
    have h2 := (h.ch c1).ch c2
    refine ed_i h2 ht fun ea n w3 c3 hn b3 => ?_
    have h3 := h2.ch c3
    have b1' := (b1.ch c2 (fun h => h)).ch c3 (fun h => h)
    have hbad : pairBad p i = (loopsM p t != decide (kindAt p t.frm.toNat = 12 ∧ t.out = 0)) := by unfold pairBad; rw [ht]
    obtain ⟨u, hu⟩ := some_at (l := p.tasks) (i := t.frm.toNat) (by omega)
    obtain ⟨ua, rfl, -, huk, -⟩ := h3.tasks t.frm.toNat u hu
    have fin : ∀ (b : Bool) (w4 : World), Ch No w3 w4 → b = pairBad p i → wpT Tryz.prog (ChkR w p.edges.length (pairBad p)) (after Tryz.prog (ChkR w p.edges.length (pairBad p)) (fun _ _ _ => False) m36_3 mx36_3 mr36_3 0 (fun u23 g23 => .done (.returned (.int .i64 (-1)))) (fun u24 g24 => .done (.returned (.int .i64 u24.1)))
        (fun v' w' => Told p.edges.length (pairBad p) w1 v'.1 w' ∧ p.edges.length - v'.1.toNat < p.edges.length - ((i : Nat) : Int).toNat)) (.br b (.fin .ret [(2, .int .i64 ((i : Nat) : Int))]) (.fin .normal [(8, .int .i64 (IntKind.i64.wrap (((i : Nat) : Int) + 1)))])) .pl w4 := fun b w4 c4 hb =>
      br_both (fun e5 => ⟨((i : Nat), ()), rfl, fun g => ⟨by rw [at_some hi' (by rw [← hb]; exact e5) hall], c1.trans (c2.trans (c3.trans c4))⟩⟩)
        fun e5 => ⟨(_, ()), rfl, Told.step hi' (by omega) c2 hall (c3.trans c4) (by rw [← hb]; exact e5), Told.less hi' (by omega)⟩
    refine dr_no (lc_int (b1'.cell 0) (lc_sl (b1'.cell 1) (lc_sl (b1'.cell 2) (lc_int (b3.cell 0) (lc_int (b3.cell 1) (lc_int (b3.cell 2) (lc_int (b3.cell 3) ?_)))))))
    refine cc_i (x := loopsM p t) (fun w4 c4 => loops_any w4 p _ ep tc ec t (h3.ch c4) t0 t1) ?_
    refine lc_sl (b1'.cell 1) (lc_int (b3.cell 0) (ix_i f0 f1 (lc_int huk (br_both (fun e4 => ?_) fun e4 => ?_))))
    · have e4 : u.kind = 12 := eq_of_beq e4
      refine lc_int (b3.cell 1) (un_no fun w4 c4 => fin _ w4 c4 ?_)
      rw [hbad, kindAt_of hu]
      have : decide (u.kind = 12 ∧ t.out = 0) = (t.out == 0) := by rw [e4]; by_cases h0 : t.out = 0 <;> simp [h0]
      rw [this]
      rfl
    · have e4 : ¬ u.kind = 12 := fun hh => by rw [hh] at e4; simp at e4
      refine un_no fun w4 c4 => fin _ w4 c4 ?_
      rw [hbad, kindAt_of hu, decide_eq_false (fun hh => e4 hh.1)]
      rfl
  · have e := lt_f e
    obtain rfl : i = p.edges.length := by omega
    exact ⟨rfl, (), rfl, fun g => ⟨by rw [at_none hall], c1.trans c2⟩⟩
end Go.Proofs.YtkebljkdkaagfaaGreatDoor.S
