/- The law's own comparisons; its example's shape. The law's own example goes through Build as well: its answer. -/
import Derived.Test.YtkebljkdkaagfaaGreatDoorShm
namespace Go.Proofs.YtkebljkdkaagfaaGreatDoor.S
open Go Tr
set_option maxRecDepth 100000
set_option maxHeartbeats 4000000
/-! the tree of function 15 -/
abbrev fx15_1 (qa0 : Option Addr) (qn0 : Nat) (qc0 : Nat) (qa1 : Option Addr) (qn1 : Nat) (qc1 : Nat) : List (Tmp × Value) := [(0, .slice qa0 qn0 qc0), (1, .slice qa1 qn1 qc1)]
abbrev m15_1 : List (Tmp × Comp) := [(5, .leaf (.int .i64))]
abbrev mx15_1 : List (Tmp × Comp) := []
abbrev mr15_1 : List (Tmp × Comp) := [(4, .leaf .bool)]
def s15_1 : Script := .sym (.qt (.ix (.ld (.int .i64) (.ix (.ld (.int .i64) (.sym .nil .nil)))))) .nil
theorem t15_1 (qa0 : Option Addr) (qn0 : Nat) (qc0 : Nat) (qa1 : Option Addr) (qn1 : Nat) (qc1 : Nat) (x_5 : Int) (gg1 : Nat → Value) : pieceT Tryz.prog (at_ Tryz.f15 [1, 1, 0, 1, 0, 0]) 26 (fx15_1 qa0 qn0 qc0 qa1 qn1 qc1 ++ mvals m15_1 (x_5, ())) gg1 (m15_1.map (·.1)) (mx15_1.map (·.1)) (mr15_1.map (·.1)) s15_1 = .br (Decidable.decide (x_5 < (↑qn0 : Int))) (.drawn (.idx qa0 x_5 qn0 1 (fun a2 => .load a2 (.int .i64) (fun x3 => .idx qa1 x_5 qn1 1 (fun a4 => .load a4 (.int .i64) (fun x5 => .undrawn (.br (x3 != x5) (.fin .ret [(4, .bool false)]) (.fin .normal [(5, .int .i64 (IntKind.i64.wrap (x_5 + 1)))])))))))) (.fin (.exit 0) []) := by kernel_rfl
def s15 : Script := .sym .nil (.lp 0 [0, 1] [5] mx15_1 mr15_1 .nil .nil)
theorem t15 (qa0 : Option Addr) (qn0 : Nat) (qc0 : Nat) (qa1 : Option Addr) (qn1 : Nat) (qc1 : Nat) : fnT Tryz.prog Tryz.f15 #[.slice qa0 qn0 qc0, .slice qa1 qn1 qc1] s15 = .br ((↑qn0 : Int) != (↑qn1 : Int)) (.done (.returned (.bool false))) (.loop (at_ Tryz.f15 [1, 1, 0, 1, 0, 0]) 26 (fx15_1 qa0 qn0 qc0 qa1 qn1 qc1) [(5, .int .i64 0)] mx15_1 mr15_1 0 (fun u6 g6 => .done (.returned (.bool true))) (fun u7 g7 => .done (.returned (.bool u7.1)))) := by kernel_rfl
/-! the tree of function 21 -/
abbrev fx21_1 (qa0 : Option Addr) (qn0 : Nat) (qc0 : Nat) (qa1 : Option Addr) (qn1 : Nat) (qc1 : Nat) : List (Tmp × Value) := [(0, .slice qa0 qn0 qc0), (1, .slice qa1 qn1 qc1)]
abbrev m21_1 : List (Tmp × Comp) := [(5, .leaf (.int .i64))]
abbrev mx21_1 : List (Tmp × Comp) := []
abbrev mr21_1 : List (Tmp × Comp) := [(4, .leaf .bool)]
def s21_1 : Script := .sym (.qt (.ix (.ld .bool (.ix (.ld .bool (.sym .nil .nil)))))) .nil
theorem t21_1 (qa0 : Option Addr) (qn0 : Nat) (qc0 : Nat) (qa1 : Option Addr) (qn1 : Nat) (qc1 : Nat) (x_5 : Int) (gg1 : Nat → Value) : pieceT Tryz.prog (at_ Tryz.f21 [1, 1, 0, 1, 0, 0]) 26 (fx21_1 qa0 qn0 qc0 qa1 qn1 qc1 ++ mvals m21_1 (x_5, ())) gg1 (m21_1.map (·.1)) (mx21_1.map (·.1)) (mr21_1.map (·.1)) s21_1 = .br (Decidable.decide (x_5 < (↑qn0 : Int))) (.drawn (.idx qa0 x_5 qn0 1 (fun a2 => .load a2 .bool (fun b3 => .idx qa1 x_5 qn1 1 (fun a4 => .load a4 .bool (fun b5 => .undrawn (.br (!b3 == b5) (.fin .ret [(4, .bool false)]) (.fin .normal [(5, .int .i64 (IntKind.i64.wrap (x_5 + 1)))])))))))) (.fin (.exit 0) []) := by kernel_rfl
def s21 : Script := .sym .nil (.lp 0 [0, 1] [5] mx21_1 mr21_1 .nil .nil)
theorem t21 (qa0 : Option Addr) (qn0 : Nat) (qc0 : Nat) (qa1 : Option Addr) (qn1 : Nat) (qc1 : Nat) : fnT Tryz.prog Tryz.f21 #[.slice qa0 qn0 qc0, .slice qa1 qn1 qc1] s21 = .br ((↑qn0 : Int) != (↑qn1 : Int)) (.done (.returned (.bool false))) (.loop (at_ Tryz.f21 [1, 1, 0, 1, 0, 0]) 26 (fx21_1 qa0 qn0 qc0 qa1 qn1 qc1) [(5, .int .i64 0)] mx21_1 mr21_1 0 (fun u6 g6 => .done (.returned (.bool true))) (fun u7 g7 => .done (.returned (.bool u7.1)))) := by kernel_rfl
/-! the tree of function 22 -/
abbrev fx22_1 (qa0 : Option Addr) (qn0 : Nat) (qc0 : Nat) (qa1 : Option Addr) (qn1 : Nat) (qc1 : Nat) : List (Tmp × Value) := [(0, .slice qa0 qn0 qc0), (1, .slice qa1 qn1 qc1)]
abbrev m22_1 : List (Tmp × Comp) := [(5, .leaf (.int .i64))]
abbrev mx22_1 : List (Tmp × Comp) := []
abbrev mr22_1 : List (Tmp × Comp) := [(4, .leaf .bool)]
def s22_1 : Script := .sym (.qt (.ix (.ld .sl (.ix (.ld .sl (.cl (.one (.leaf .bool)) (.sym .nil .nil))))))) .nil
theorem t22_1 (qa0 : Option Addr) (qn0 : Nat) (qc0 : Nat) (qa1 : Option Addr) (qn1 : Nat) (qc1 : Nat) (x_5 : Int) (gg1 : Nat → Value) : pieceT Tryz.prog (at_ Tryz.f22 [1, 1, 0, 1, 0, 0]) 27 (fx22_1 qa0 qn0 qc0 qa1 qn1 qc1 ++ mvals m22_1 (x_5, ())) gg1 (m22_1.map (·.1)) (mx22_1.map (·.1)) (mr22_1.map (·.1)) s22_1 = .br (Decidable.decide (x_5 < (↑qn0 : Int))) (.drawn (.idx qa0 x_5 qn0 1 (fun a2 => .load a2 .sl (fun l3 => .idx qa1 x_5 qn1 1 (fun a4 => .load a4 .sl (fun l5 => .call 15 #[.slice l3.1 l3.2.1 l3.2.2, .slice l5.1 l5.2.1 l5.2.2] (.one (.leaf .bool)) (fun b6 => .undrawn (.br (!b6) (.fin .ret [(4, .bool false)]) (.fin .normal [(5, .int .i64 (IntKind.i64.wrap (x_5 + 1)))]))))))))) (.fin (.exit 0) []) := by kernel_rfl
def s22 : Script := .sym .nil (.lp 0 [0, 1] [5] mx22_1 mr22_1 .nil .nil)
theorem t22 (qa0 : Option Addr) (qn0 : Nat) (qc0 : Nat) (qa1 : Option Addr) (qn1 : Nat) (qc1 : Nat) : fnT Tryz.prog Tryz.f22 #[.slice qa0 qn0 qc0, .slice qa1 qn1 qc1] s22 = .br ((↑qn0 : Int) != (↑qn1 : Int)) (.done (.returned (.bool false))) (.loop (at_ Tryz.f22 [1, 1, 0, 1, 0, 0]) 27 (fx22_1 qa0 qn0 qc0 qa1 qn1 qc1) [(5, .int .i64 0)] mx22_1 mr22_1 0 (fun u7 g7 => .done (.returned (.bool true))) (fun u8 g8 => .done (.returned (.bool u8.1)))) := by kernel_rfl
/-! the tree of function 11 -/
abbrev fx11_3 (n1 : Nat) (n2 : Nat) : List (Tmp × Value) := [(2, .pointer (some ⟨n1, 0, none⟩)), (3, .pointer (some ⟨n2, 0, none⟩))]
abbrev mx11_3 : List (Tmp × Comp) := [(5, .leaf .bool)]
def s11_3 : Script := .ld .sl (.ld .sl (.cl (.one (.leaf .bool)) (.sym (.lit (.ld .sl (.lit (.lit (.ld .sl (.lit (.cl (.one (.leaf .bool)) (.lit (.sym (.lit (.ld .sl (.lit (.lit (.ld .sl (.lit (.cl (.one (.leaf .bool)) (.lit .nil)))))))) (.lit (.lit (.lit (.lit (.lit .nil)))))))))))))) (.lit (.lit (.lit (.lit (.lit (.lit (.lit (.lit (.lit (.lit (.lit .nil))))))))))))))
theorem t11_3 (n1 : Nat) (n2 : Nat) (gg3 : Nat → Value) : pieceT Tryz.prog (at_ Tryz.f11 [1, 0]) 63 (fx11_3 n1 n2) gg3 (mx11_3.map (·.1)) [] [] s11_3 = .load ⟨n1, 3, none⟩ .sl (fun l4 => .load ⟨n2, 3, none⟩ .sl (fun l5 => .call 15 #[.slice l4.1 l4.2.1 l4.2.2, .slice l5.1 l5.2.1 l5.2.2] (.one (.leaf .bool)) (fun b6 => .br b6 (.load ⟨n1, 4, none⟩ .sl (fun l7 => .load ⟨n2, 4, none⟩ .sl (fun l8 => .call 15 #[.slice l7.1 l7.2.1 l7.2.2, .slice l8.1 l8.2.1 l8.2.2] (.one (.leaf .bool)) (fun b9 => .br b9 (.load ⟨n1, 5, none⟩ .sl (fun l10 => .load ⟨n2, 5, none⟩ .sl (fun l11 => .call 15 #[.slice l10.1 l10.2.1 l10.2.2, .slice l11.1 l11.2.1 l11.2.2] (.one (.leaf .bool)) (fun b12 => .fin .normal [(5, .bool b12)])))) (.fin .normal [(5, .bool false)]))))) (.fin .normal [(5, .bool false)])))) := by kernel_rfl
abbrev fx11_14 (n1 : Nat) (n2 : Nat) (u13 : Bool × Unit) : List (Tmp × Value) := [(2, .pointer (some ⟨n1, 0, none⟩)), (3, .pointer (some ⟨n2, 0, none⟩)), (5, .bool u13.1)]
abbrev mx11_14 : List (Tmp × Comp) := [(6, .leaf .bool)]
def s11_14 : Script := .ld .sl (.ld .sl (.cl (.one (.leaf .bool)) (.sym (.lit (.ld .sl (.lit (.lit (.ld .sl (.lit (.cl (.one (.leaf .bool)) (.lit (.sym (.lit (.ld .sl (.lit (.lit (.ld .sl (.lit (.cl (.one (.leaf .bool)) (.lit .nil)))))))) (.lit (.lit (.lit (.lit (.lit .nil)))))))))))))) (.lit (.lit (.lit (.lit (.lit (.lit (.lit (.lit (.lit (.lit (.lit .nil))))))))))))))
theorem t11_14 (n1 : Nat) (n2 : Nat) (u13 : Bool × Unit) (gg14 : Nat → Value) : pieceT Tryz.prog (at_ Tryz.f11 [1, 1, 0]) 63 (fx11_14 n1 n2 u13) gg14 (mx11_14.map (·.1)) [] [] s11_14 = .load ⟨n1, 6, none⟩ .sl (fun l15 => .load ⟨n2, 6, none⟩ .sl (fun l16 => .call 15 #[.slice l15.1 l15.2.1 l15.2.2, .slice l16.1 l16.2.1 l16.2.2] (.one (.leaf .bool)) (fun b17 => .br b17 (.load ⟨n1, 7, none⟩ .sl (fun l18 => .load ⟨n2, 7, none⟩ .sl (fun l19 => .call 15 #[.slice l18.1 l18.2.1 l18.2.2, .slice l19.1 l19.2.1 l19.2.2] (.one (.leaf .bool)) (fun b20 => .br b20 (.load ⟨n1, 2, none⟩ .sl (fun l21 => .load ⟨n2, 2, none⟩ .sl (fun l22 => .call 21 #[.slice l21.1 l21.2.1 l21.2.2, .slice l22.1 l22.2.1 l22.2.2] (.one (.leaf .bool)) (fun b23 => .fin .normal [(6, .bool b23)])))) (.fin .normal [(6, .bool false)]))))) (.fin .normal [(6, .bool false)])))) := by kernel_rfl
def s11 : Script := .ct 1 [2, 3] mx11_3 (.ct 0 [2, 3, 5] mx11_14 (.sym (.lit (.sym (.lit (.ld .sl (.lit (.lit (.ld .sl (.lit (.cl (.one (.leaf .bool)) (.lit (.sym (.lit (.ld .sl (.lit (.lit (.ld .sl (.lit (.cl (.one (.leaf .bool)) (.lit .nil)))))))) (.lit (.lit (.lit (.lit (.lit .nil)))))))))))))) (.lit (.lit (.lit (.lit (.lit (.lit (.lit (.lit (.lit (.lit (.lit .nil))))))))))))) (.lit (.lit (.lit (.lit (.lit (.lit (.lit (.lit (.lit (.lit (.lit (.lit (.lit .nil)))))))))))))))
theorem t11 (qa0_0 : Option Addr) (qn0_0 : Nat) (qc0_0 : Nat) (qa0_1 : Option Addr) (qn0_1 : Nat) (qc0_1 : Nat) (qa0_2 : Option Addr) (qn0_2 : Nat) (qc0_2 : Nat) (qa0_3 : Option Addr) (qn0_3 : Nat) (qc0_3 : Nat) (qa0_4 : Option Addr) (qn0_4 : Nat) (qc0_4 : Nat) (qa0_5 : Option Addr) (qn0_5 : Nat) (qc0_5 : Nat) (qa0_6 : Option Addr) (qn0_6 : Nat) (qc0_6 : Nat) (qa0_7 : Option Addr) (qn0_7 : Nat) (qc0_7 : Nat) (qa1_0 : Option Addr) (qn1_0 : Nat) (qc1_0 : Nat) (qa1_1 : Option Addr) (qn1_1 : Nat) (qc1_1 : Nat) (qa1_2 : Option Addr) (qn1_2 : Nat) (qc1_2 : Nat) (qa1_3 : Option Addr) (qn1_3 : Nat) (qc1_3 : Nat) (qa1_4 : Option Addr) (qn1_4 : Nat) (qc1_4 : Nat) (qa1_5 : Option Addr) (qn1_5 : Nat) (qc1_5 : Nat) (qa1_6 : Option Addr) (qn1_6 : Nat) (qc1_6 : Nat) (qa1_7 : Option Addr) (qn1_7 : Nat) (qc1_7 : Nat) : fnT Tryz.prog Tryz.f11 #[.agg #[.slice qa0_0 qn0_0 qc0_0, .slice qa0_1 qn0_1 qc0_1, .slice qa0_2 qn0_2 qc0_2, .slice qa0_3 qn0_3 qc0_3, .slice qa0_4 qn0_4 qc0_4, .slice qa0_5 qn0_5 qc0_5, .slice qa0_6 qn0_6 qc0_6, .slice qa0_7 qn0_7 qc0_7], .agg #[.slice qa1_0 qn1_0 qc1_0, .slice qa1_1 qn1_1 qc1_1, .slice qa1_2 qn1_2 qc1_2, .slice qa1_3 qn1_3 qc1_3, .slice qa1_4 qn1_4 qc1_4, .slice qa1_5 qn1_5 qc1_5, .slice qa1_6 qn1_6 qc1_6, .slice qa1_7 qn1_7 qc1_7]] s11 = .new (.cells #[.slice qa0_0 qn0_0 qc0_0, .slice qa0_1 qn0_1 qc0_1, .slice qa0_2 qn0_2 qc0_2, .slice qa0_3 qn0_3 qc0_3, .slice qa0_4 qn0_4 qc0_4, .slice qa0_5 qn0_5 qc0_5, .slice qa0_6 qn0_6 qc0_6, .slice qa0_7 qn0_7 qc0_7] 31 (0, 0)) (fun n1 => .new (.cells #[.slice qa1_0 qn1_0 qc1_0, .slice qa1_1 qn1_1 qc1_1, .slice qa1_2 qn1_2 qc1_2, .slice qa1_3 qn1_3 qc1_3, .slice qa1_4 qn1_4 qc1_4, .slice qa1_5 qn1_5 qc1_5, .slice qa1_6 qn1_6 qc1_6, .slice qa1_7 qn1_7 qc1_7] 31 (0, 0)) (fun n2 => .cut (at_ Tryz.f11 [1, 0]) 63 (fx11_3 n1 n2) mx11_3 (fun u13 g13 => .cut (at_ Tryz.f11 [1, 1, 0]) 63 (fx11_14 n1 n2 u13) mx11_14 (fun u24 g24 => .br u13.1 (.br u24.1 (.load ⟨n1, 0, none⟩ .sl (fun l25 => .load ⟨n2, 0, none⟩ .sl (fun l26 => .call 22 #[.slice l25.1 l25.2.1 l25.2.2, .slice l26.1 l26.2.1 l26.2.2] (.one (.leaf .bool)) (fun b27 => .br b27 (.load ⟨n1, 1, none⟩ .sl (fun l28 => .load ⟨n2, 1, none⟩ .sl (fun l29 => .call 22 #[.slice l28.1 l28.2.1 l28.2.2, .slice l29.1 l29.2.1 l29.2.2] (.one (.leaf .bool)) (fun b30 => .done (.returned (.bool b30)))))) (.done (.returned (.bool false))))))) (.done (.returned (.bool false)))) (.done (.returned (.bool false))))))) := by kernel_rfl
/-! the tree of function 13 -/
def s13 : Script := .ld .sl (.ld (.int .i64) (.ix (.ld (.int .i64) (.sym (.lit (.ld (.int .i64) (.lit (.lit .nil)))) (.lit (.lit (.lit .nil)))))))
theorem t13 (qx0_0 : Int) (qa0_1 : Option Addr) (qn0_1 : Nat) (qc0_1 : Nat) (qa0_2 : Option Addr) (qn0_2 : Nat) (qc0_2 : Nat) (qx1_0 : Int) (qx1_1 : Int) (qx1_2 : Int) (qx1_3 : Int) : fnT Tryz.prog Tryz.f13 #[.agg #[.int .i64 qx0_0, .slice qa0_1 qn0_1 qc0_1, .slice qa0_2 qn0_2 qc0_2], .agg #[.int .i64 qx1_0, .int .i64 qx1_1, .int .i64 qx1_2, .int .i64 qx1_3]] s13 = .new (.cells #[.int .i64 qx0_0, .slice qa0_1 qn0_1 qc0_1, .slice qa0_2 qn0_2 qc0_2] 25 (0, 0)) (fun n1 => .new (.cells #[.int .i64 qx1_0, .int .i64 qx1_1, .int .i64 qx1_2, .int .i64 qx1_3] 39 (0, 0)) (fun n2 => .load ⟨n1, 1, none⟩ .sl (fun l3 => .load ⟨n2, 2, none⟩ (.int .i64) (fun x4 => .idx l3.1 x4 l3.2.1 4 (fun a5 => .load (a5.add 1) (.int .i64) (fun x6 => .br (x6 == 11) (.load ⟨n2, 3, none⟩ (.int .i64) (fun x7 => .done (.returned (.bool (x7 == 1))))) (.done (.returned (.bool false))))))))) := by kernel_rfl
/-! the tree of function 10 -/
def s10 : Script := .nil
theorem t10 (qx0 : Int) : fnT Tryz.prog Tryz.f10 #[.int .i64 qx0] s10 = .done (.returned (.int .i64 qx0)) := by kernel_rfl
/-! the tree of function 20 -/
def s20 : Script := .ld (.int .i64) (.ld .sl (.ld .sl .nil))
theorem t20 : fnT Tryz.prog Tryz.f20 #[] s20 = .new (.cells #[.int .i64 0, .slice none 0 0, .slice none 0 0] 25 (0, 0)) (fun n1 => .new (.cells #[.string (bytesL [118, 97, 108])] 9 (0, 0)) (fun n2 => .new (.cells #[.string (bytesL [115]), .int .i64 1, .int .i64 0, .slice none 0 0, .string (bytesL [104]), .int .i64 11, .int .i64 0, .slice none 0 0, .string (bytesL [116]), .int .i64 12, .int .i64 3, .slice (some ⟨n2, 0, none⟩) 1 1, .string (bytesL [107]), .int .i64 13, .int .i64 0, .slice none 0 0] 46 (0, 0)) (fun n3 => .new (.cells #[.int .i64 0, .int .i64 0, .int .i64 1, .int .i64 0, .int .i64 1, .int .i64 0, .int .i64 2, .int .i64 0, .int .i64 2, .int .i64 0, .int .i64 1, .int .i64 1, .int .i64 2, .int .i64 1, .int .i64 3, .int .i64 0] 39 (0, 0)) (fun n4 => .store ⟨n1, 0, none⟩ (.int .i64 2) (.store ⟨n1, 1, none⟩ (.slice (some ⟨n3, 0, none⟩) 4 4) (.store ⟨n1, 2, none⟩ (.slice (some ⟨n4, 0, none⟩) 4 4) (.load ⟨n1, 0, none⟩ (.int .i64) (fun x5 => .load ⟨n1, 1, none⟩ .sl (fun l6 => .load ⟨n1, 2, none⟩ .sl (fun l7 => .done (.returned (.agg #[.int .i64 x5, .slice l6.1 l6.2.1 l6.2.2, .slice l7.1 l7.2.1 l7.2.2])))))))))))) := by kernel_rfl
/-! the tree of function 8 -/
abbrev fx8_4 (r2 : ((Option Addr × Nat × Nat) × (Option Addr × Nat × Nat) × (Option Addr × Nat × Nat) × (Option Addr × Nat × Nat) × (Option Addr × Nat × Nat) × (Option Addr × Nat × Nat) × (Option Addr × Nat × Nat) × (Option Addr × Nat × Nat) × Unit) × Int × Int × Unit) (n3 : Nat) : List (Tmp × Value) := [(1, .pointer (some ⟨n3, 0, none⟩)), (2, .int .i64 r2.2.1), (3, .int .i64 r2.2.2.1)]
abbrev mx8_4 : List (Tmp × Comp) := [(31, .leaf .bool)]
def s8_4 : Script := .cl (.one (.leaf (.int .i64))) (.sym (.lit (.lit (.lit (.lit (.lit (.lit (.lit (.lit (.lit (.lit (.lit (.lit (.lit (.lit .nil)))))))))))))) (.lit (.lit (.sym (.lit (.lit (.lit (.lit (.lit (.lit (.lit (.lit (.lit (.lit (.lit .nil))))))))))) (.lit (.ld .sl (.lit (.lit (.cl (.one (.leaf .bool)) (.lit (.lit (.sym (.lit (.lit (.lit (.lit (.lit .nil))))) (.lit (.ld .sl (.lit (.lit (.cl (.one (.leaf .bool)) (.lit (.lit .nil)))))))))))))))))))
theorem t8_4 (r2 : ((Option Addr × Nat × Nat) × (Option Addr × Nat × Nat) × (Option Addr × Nat × Nat) × (Option Addr × Nat × Nat) × (Option Addr × Nat × Nat) × (Option Addr × Nat × Nat) × (Option Addr × Nat × Nat) × (Option Addr × Nat × Nat) × Unit) × Int × Int × Unit) (n3 : Nat) (gg4 : Nat → Value) : pieceT Tryz.prog (at_ Tryz.f8 [1, 1, 0, 0]) 61 (fx8_4 r2 n3) gg4 (mx8_4.map (·.1)) [] [] s8_4 = .call 10 #[.int .i64 r2.2.2.1] (.one (.leaf (.int .i64))) (fun x5 => .br (x5 != 0) (.fin .normal [(31, .bool true)]) (.br (r2.snd.fst != 0) (.fin .normal [(31, .bool true)]) (.load ⟨n3, 2, none⟩ .sl (fun l6 => .new (.cells #[.bool false, .bool false, .bool true, .bool false] 4 (0, 0)) (fun n7 => .call 21 #[.slice l6.1 l6.2.1 l6.2.2, .slice (some ⟨n7, 0, none⟩) 4 4] (.one (.leaf .bool)) (fun b8 => .br (!b8) (.fin .normal [(31, .bool true)]) (.load ⟨n3, 3, none⟩ .sl (fun l9 => .new (.cells #[.int .i64 0, .int .i64 1, .int .i64 2, .int .i64 3] 3 (0, 0)) (fun n10 => .call 15 #[.slice l9.1 l9.2.1 l9.2.2, .slice (some ⟨n10, 0, none⟩) 4 4] (.one (.leaf .bool)) (fun b11 => .fin .normal [(31, .bool (!b11))])))))))))) := by kernel_rfl
abbrev fx8_13 (n3 : Nat) : List (Tmp × Value) := [(1, .pointer (some ⟨n3, 0, none⟩))]
abbrev mx8_13 : List (Tmp × Comp) := [(4, .leaf .bool)]
def s8_13 : Script := .ld .sl (.cl (.one (.leaf .bool)) (.sym (.lit (.ld .sl (.lit (.lit (.lit (.lit (.lit (.cl (.one (.leaf .bool)) (.lit .nil))))))))) (.lit (.lit (.lit (.lit (.lit (.lit (.lit .nil)))))))))
theorem t8_13 (n3 : Nat) (gg13 : Nat → Value) : pieceT Tryz.prog (at_ Tryz.f8 [1, 1, 1, 0]) 61 (fx8_13 n3) gg13 (mx8_13.map (·.1)) [] [] s8_13 = .load ⟨n3, 0, none⟩ .sl (fun l14 => .new (.cells #[.int .i64 0, .int .i64 2] 3 (0, 0)) (fun n15 => .new (.cells #[.int .i64 1] 3 (0, 0)) (fun n16 => .new (.cells #[.int .i64 3] 3 (0, 0)) (fun n17 => .new (.cells #[.slice none 0 0, .slice (some ⟨n15, 0, none⟩) 2 2, .slice (some ⟨n16, 0, none⟩) 1 1, .slice (some ⟨n17, 0, none⟩) 1 1] 29 (0, 0)) (fun n18 => .call 22 #[.slice l14.1 l14.2.1 l14.2.2, .slice (some ⟨n18, 0, none⟩) 4 4] (.one (.leaf .bool)) (fun b19 => .br b19 (.load ⟨n3, 1, none⟩ .sl (fun l20 => .new (.cells #[.int .i64 0] 3 (0, 0)) (fun n21 => .new (.cells #[.int .i64 1] 3 (0, 0)) (fun n22 => .new (.cells #[.int .i64 2, .int .i64 3] 3 (0, 0)) (fun n23 => .new (.cells #[.slice (some ⟨n21, 0, none⟩) 1 1, .slice (some ⟨n22, 0, none⟩) 1 1, .slice (some ⟨n23, 0, none⟩) 2 2, .slice none 0 0] 29 (0, 0)) (fun n24 => .call 22 #[.slice l20.1 l20.2.1 l20.2.2, .slice (some ⟨n24, 0, none⟩) 4 4] (.one (.leaf .bool)) (fun b25 => .fin .normal [(4, .bool b25)]))))))) (.fin .normal [(4, .bool false)]))))))) := by kernel_rfl
def s8 : Script := .cl (.one (.agg [.int .i64, .sl, .sl])) (.cl (.tup [.agg [.sl, .sl, .sl, .sl, .sl, .sl, .sl, .sl], .leaf (.int .i64), .leaf (.int .i64)]) (.ct 1 [1, 2, 3] mx8_4 (.sym .nil (.ct 0 [1] mx8_13 (.sym (.lit (.ld .sl (.lit (.lit (.cl (.one (.leaf .bool)) (.lit (.sym (.lit (.ld .sl (.lit (.lit (.cl (.one (.leaf .bool)) (.lit .nil)))))) (.lit (.lit (.lit (.lit .nil))))))))))) (.lit (.lit (.lit (.lit (.lit (.lit (.lit (.lit (.lit .nil))))))))))))))
theorem t8 : fnT Tryz.prog Tryz.f8 #[] s8 = .call 20 #[] (.one (.agg [.int .i64, .sl, .sl])) (fun r1 => .call 9 #[.agg #[.int .i64 r1.1, .slice r1.2.1.1 r1.2.1.2.1 r1.2.1.2.2, .slice r1.2.2.1.1 r1.2.2.1.2.1 r1.2.2.1.2.2]] (.tup [.agg [.sl, .sl, .sl, .sl, .sl, .sl, .sl, .sl], .leaf (.int .i64), .leaf (.int .i64)]) (fun r2 => .new (.cells #[.slice none 0 0, .slice none 0 0, .slice none 0 0, .slice none 0 0, .slice none 0 0, .slice none 0 0, .slice none 0 0, .slice none 0 0] 31 (0, 0)) (fun n3 => .store ⟨n3, 0, none⟩ (.slice r2.1.1.1 r2.1.1.2.1 r2.1.1.2.2) (.store ⟨n3, 1, none⟩ (.slice r2.1.2.1.1 r2.1.2.1.2.1 r2.1.2.1.2.2) (.store ⟨n3, 2, none⟩ (.slice r2.1.2.2.1.1 r2.1.2.2.1.2.1 r2.1.2.2.1.2.2) (.store ⟨n3, 3, none⟩ (.slice r2.1.2.2.2.1.1 r2.1.2.2.2.1.2.1 r2.1.2.2.2.1.2.2) (.store ⟨n3, 4, none⟩ (.slice r2.1.2.2.2.2.1.1 r2.1.2.2.2.2.1.2.1 r2.1.2.2.2.2.1.2.2) (.store ⟨n3, 5, none⟩ (.slice r2.1.2.2.2.2.2.1.1 r2.1.2.2.2.2.2.1.2.1 r2.1.2.2.2.2.2.1.2.2) (.store ⟨n3, 6, none⟩ (.slice r2.1.2.2.2.2.2.2.1.1 r2.1.2.2.2.2.2.2.1.2.1 r2.1.2.2.2.2.2.2.1.2.2) (.store ⟨n3, 7, none⟩ (.slice r2.1.2.2.2.2.2.2.2.1.1 r2.1.2.2.2.2.2.2.2.1.2.1 r2.1.2.2.2.2.2.2.2.1.2.2) (.cut (at_ Tryz.f8 [1, 1, 0, 0]) 61 (fx8_4 r2 n3) mx8_4 (fun u12 g12 => .br u12.1 (.done (.returned (.bool false))) (.cut (at_ Tryz.f8 [1, 1, 1, 0]) 61 (fx8_13 n3) mx8_13 (fun u26 g26 => .br u26.1 (.load ⟨n3, 6, none⟩ .sl (fun l27 => .new (.cells #[.int .i64 (-1), .int .i64 2, .int .i64 1, .int .i64 (-1)] 3 (0, 0)) (fun n28 => .call 15 #[.slice l27.1 l27.2.1 l27.2.2, .slice (some ⟨n28, 0, none⟩) 4 4] (.one (.leaf .bool)) (fun b29 => .br b29 (.load ⟨n3, 7, none⟩ .sl (fun l30 => .new (.cells #[.int .i64 0, .int .i64 1, .int .i64 2, .int .i64 3] 3 (0, 0)) (fun n31 => .call 15 #[.slice l30.1 l30.2.1 l30.2.2, .slice (some ⟨n31, 0, none⟩) 4 4] (.one (.leaf .bool)) (fun b32 => .done (.returned (.bool b32)))))) (.done (.returned (.bool false))))))) (.done (.returned (.bool false))))))))))))))))) := by kernel_rfl
theorem num_any (w : World) (k : Int) : Calls Tryz.prog 10 #[.int .i64 k] w fun r w' => r = .returned (.int .i64 k) ∧ w' = w := by
  refine calls_of_fnT mixed Tryz.func10 (s := s10) ?_
  rw [t10]
  exact ⟨rfl, rfl⟩
/-- Two lists of one length that agree at the first n places. -/
theorem list_eq {α : Type} {a b : List α} (hl : a.length = b.length) (h : ∀ j, j < a.length → a[j]? = b[j]?) : a = b := by
  apply List.ext_getElem?
  intro j
  rcases Nat.lt_or_ge j a.length with hj | hj
  · exact h j hj
  · rw [List.getElem?_eq_none hj, List.getElem?_eq_none (by omega)]
theorem sameInts_any (w : World) (a b : Option Addr) (ca cb : Nat) (la lb : List Int) (ha : AtI w a la) (hb : AtI w b lb) (hn : la.length ≤ 9223372036854775807) :
    Calls Tryz.prog 15 #[.slice a la.length ca, .slice b lb.length cb] w fun r w' => r = .returned (.bool (decide (la = lb))) ∧ Ch No w w' := by
  refine calls_of_fnT mixed Tryz.func15 (s := s15) ?_
  rw [t15]
  refine br_both (fun e => ⟨?_, Ch.refl _ _⟩) fun e => ?_
  · have e := ne_t e
    rw [decide_eq_false (fun h => e (by rw [h]))]
  have e := ne_f e
  have hl : la.length = lb.length := by omega
  refine loop_i mixed m15_1 s15_1 (by kernel_rfl) (by kernel_rfl) (fun v w2 => Ch No w w2 ∧ ∃ i : Nat, v.1 = (i : Nat) ∧ i ≤ la.length ∧ ∀ j, j < i → la[j]? = lb[j]?) (fun v _ => la.length - v.1.toNat) (0, ()) rfl ⟨Ch.refl _ _, 0, rfl, Nat.zero_le _, fun j h => by omega⟩ ?_
  rintro ⟨_, ⟨⟩⟩ g w2 ⟨c2, i, rfl, hi, hall⟩
  rw [t15_1]
  refine br_both (fun e2 => ?_) fun e2 => ?_
  · have e2 := lt_t e2
    obtain ⟨x, hx⟩ := some_at (l := la) (i := i) (by omega)
    obtain ⟨y, hy⟩ := some_at (l := lb) (i := i) (by omega)
    obtain ⟨aa, rfl, hax⟩ := (ha.ch c2) i x hx
    obtain ⟨ba, rfl, hby⟩ := (hb.ch c2) i y hy
    refine dr_no (ix_i (by omega) (by omega) ?_)
    rw [Int.toNat_natCast, Nat.mul_one]
    refine lc_int hax (ix_i (by omega) (by omega) ?_)
    rw [Nat.mul_one]
    refine lc_int hby (un_no fun w3 c3 => br_both (fun e3 => ?_) fun e3 => ?_)
    · have e3 := ne_t e3
      refine ⟨(false, ()), rfl, fun g => ⟨?_, c2.trans c3⟩⟩
      rw [decide_eq_false (fun h => e3 ?_)]
      rw [h, hy] at hx
      injection hx with hx
      exact hx.symm
    · have e3 := ne_f e3
      refine ⟨(((i : Nat) : Int) + 1, ()), by rw [wrap_succ (by omega) (by omega)]; rfl, ⟨c2.trans c3, i + 1, rfl, by omega, fun j hj => ?_⟩, by show la.length - (((i : Nat) : Int) + 1).toNat < _; omega⟩
      by_cases ej : j = i
      · rw [ej, hx, hy, e3]
      · exact hall j (by omega)
  · have e2 := lt_f e2
    obtain rfl : i = la.length := by omega
    refine ⟨rfl, (), rfl, fun g => ⟨?_, c2⟩⟩
    rw [decide_eq_true (list_eq hl hall)]
theorem AtBo.ch {w w' : World} {a : Option Addr} {l : List Bool} (h : AtBo w a l) (hc : Ch No w w') : AtBo w' a l := h.of fun _ _ ha => hc.cellv ha (fun h => h)
theorem AtII.ch {w w' : World} {a : Option Addr} {l : List (List Nat)} (h : AtII w a l) (hc : Ch No w w') : AtII w' a l := h.of fun _ _ ha => hc.cellv ha (fun h => h)
theorem sameBools_any (w : World) (a b : Option Addr) (ca cb : Nat) (la lb : List Bool) (ha : AtBo w a la) (hb : AtBo w b lb) (hn : la.length ≤ 9223372036854775807) :
    Calls Tryz.prog 21 #[.slice a la.length ca, .slice b lb.length cb] w fun r w' => r = .returned (.bool (decide (la = lb))) ∧ Ch No w w' := by
  refine calls_of_fnT mixed Tryz.func21 (s := s21) ?_
  rw [t21]
  refine br_both (fun e => ⟨?_, Ch.refl _ _⟩) fun e => ?_
  · have e := ne_t e
    rw [decide_eq_false (fun h => e (by rw [h]))]
  have e := ne_f e
  have hl : la.length = lb.length := by omega
  refine loop_i mixed m21_1 s21_1 (by kernel_rfl) (by kernel_rfl) (fun v w2 => Ch No w w2 ∧ ∃ i : Nat, v.1 = (i : Nat) ∧ i ≤ la.length ∧ ∀ j, j < i → la[j]? = lb[j]?) (fun v _ => la.length - v.1.toNat) (0, ()) rfl ⟨Ch.refl _ _, 0, rfl, Nat.zero_le _, fun j h => by omega⟩ ?_
  rintro ⟨_, ⟨⟩⟩ g w2 ⟨c2, i, rfl, hi, hall⟩
  rw [t21_1]
  refine br_both (fun e2 => ?_) fun e2 => ?_
  · have e2 := lt_t e2
    obtain ⟨x, hx⟩ := some_at (l := la) (i := i) (by omega)
    obtain ⟨y, hy⟩ := some_at (l := lb) (i := i) (by omega)
    obtain ⟨aa, rfl, hax⟩ := (ha.ch c2) i x hx
    obtain ⟨ba, rfl, hby⟩ := (hb.ch c2) i y hy
    refine dr_no (ix_i (by omega) (by omega) ?_)
    rw [Int.toNat_natCast, Nat.mul_one]
    refine lc_bool hax (ix_i (by omega) (by omega) ?_)
    rw [Nat.mul_one]
    refine lc_bool hby (un_no fun w3 c3 => br_both (fun e3 => ?_) fun e3 => ?_)
    · have e3 : x ≠ y := by simpa using e3
      refine ⟨(false, ()), rfl, fun g => ⟨?_, c2.trans c3⟩⟩
      rw [decide_eq_false (fun h => e3 ?_)]
      rw [h, hy] at hx
      injection hx with hx
      exact hx.symm
    · have e3 : x = y := by simpa using e3
      refine ⟨(((i : Nat) : Int) + 1, ()), by rw [wrap_succ (by omega) (by omega)]; rfl, ⟨c2.trans c3, i + 1, rfl, by omega, fun j hj => ?_⟩, by show la.length - (((i : Nat) : Int) + 1).toNat < _; omega⟩
      by_cases ej : j = i
      · rw [ej, hx, hy, e3]
      · exact hall j (by omega)
  · have e2 := lt_f e2
    obtain rfl : i = la.length := by omega
    refine ⟨rfl, (), rfl, fun g => ⟨?_, c2⟩⟩
    rw [decide_eq_true (list_eq hl hall)]
theorem natI_inj {a b : List Nat} (h : natI a = natI b) : a = b := by
  induction a generalizing b with
  | nil => cases b with | nil => rfl | cons _ _ => simp [natI] at h
  | cons x a ih =>
    cases b with
    | nil => simp [natI] at h
    | cons y b =>
      have h' := List.cons.inj h
      rw [ih h'.2, show x = y by exact Int.ofNat.inj h'.1]
theorem sameLists_any (w : World) (a b : Option Addr) (ca cb : Nat) (la lb : List (List Nat)) (ha : AtII w a la) (hb : AtII w b lb) (hn : la.length ≤ 9223372036854775807) (hn2 : ∀ r ∈ la, r.length ≤ 9223372036854775807) :
    Calls Tryz.prog 22 #[.slice a la.length ca, .slice b lb.length cb] w fun r w' => r = .returned (.bool (decide (la = lb))) ∧ Ch No w w' := by
  refine calls_of_fnT mixed Tryz.func22 (s := s22) ?_
  rw [t22]
  refine br_both (fun e => ⟨?_, Ch.refl _ _⟩) fun e => ?_
  · have e := ne_t e
    rw [decide_eq_false (fun h => e (by rw [h]))]
  have e := ne_f e
  have hl : la.length = lb.length := by omega
  refine loop_i mixed m22_1 s22_1 (by kernel_rfl) (by kernel_rfl) (fun v w2 => Ch No w w2 ∧ ∃ i : Nat, v.1 = (i : Nat) ∧ i ≤ la.length ∧ ∀ j, j < i → la[j]? = lb[j]?) (fun v _ => la.length - v.1.toNat) (0, ()) rfl ⟨Ch.refl _ _, 0, rfl, Nat.zero_le _, fun j h => by omega⟩ ?_
  rintro ⟨_, ⟨⟩⟩ g w2 ⟨c2, i, rfl, hi, hall⟩
  rw [t22_1]
  refine br_both (fun e2 => ?_) fun e2 => ?_
  · have e2 := lt_t e2
    obtain ⟨x, hx⟩ := some_at (l := la) (i := i) (by omega)
    obtain ⟨y, hy⟩ := some_at (l := lb) (i := i) (by omega)
    obtain ⟨aa, qa, na, rfl, hax, hra⟩ := (ha.ch c2) i x hx
    obtain ⟨ba, qb, nb, rfl, hby, hrb⟩ := (hb.ch c2) i y hy
    refine dr_no (ix_i (by omega) (by omega) ?_)
    rw [Int.toNat_natCast, Nat.mul_one]
    refine lc_sl hax (ix_i (by omega) (by omega) ?_)
    rw [Nat.mul_one]
    refine lc_sl hby (cc_i (x := decide (natI x = natI y)) (fun w' c' => ?_) (un_no fun w3 c3 => br_both (fun e3 => ?_) fun e3 => ?_))
    · have := sameInts_any w' qa qb na nb (natI x) (natI y) (hra.ch c') (hrb.ch c') (by unfold natI; rw [List.length_map]; exact hn2 x (List.mem_of_getElem? hx))
      unfold natI at this
      rw [List.length_map, List.length_map] at this
      exact this
    · have e3 : natI x ≠ natI y := by simpa using e3
      refine ⟨(false, ()), rfl, fun g => ⟨?_, c2.trans c3⟩⟩
      rw [decide_eq_false (fun h => e3 ?_)]
      rw [h, hy] at hx
      injection hx with hx
      rw [hx]
    · have e3 : natI x = natI y := by simpa using e3
      refine ⟨(((i : Nat) : Int) + 1, ()), by rw [wrap_succ (by omega) (by omega)]; rfl, ⟨c2.trans c3, i + 1, rfl, by omega, fun j hj => ?_⟩, by show la.length - (((i : Nat) : Int) + 1).toNat < _; omega⟩
      by_cases ej : j = i
      · rw [ej, hx, hy, natI_inj e3]
      · exact hall j (by omega)
  · have e2 := lt_f e2
    obtain rfl : i = la.length := by omega
    refine ⟨rfl, (), rfl, fun g => ⟨?_, c2⟩⟩
    rw [decide_eq_true (list_eq hl hall)]
/-- The bounds of a shape's lists. -/
structure SmallS (s : SM) : Prop where
  l1 : s.ins.length ≤ 1000000
  l2 : s.outs.length ≤ 1000000
  l3 : s.back.length ≤ 1000000
  l4 : s.order.length ≤ 1000000
  l5 : s.sources.length ≤ 1000000
  l6 : s.sinks.length ≤ 1000000
  l7 : s.mate.length ≤ 1000000
  l8 : s.depth.length ≤ 1000000
  r1 : ∀ r ∈ s.ins, r.length ≤ 1000000
  r2 : ∀ r ∈ s.outs, r.length ≤ 1000000
def sameSM (a b : SM) : Bool := (decide (a.order = b.order) && decide (a.sources = b.sources) && decide (a.sinks = b.sinks)) && (decide (a.mate = b.mate) && decide (a.depth = b.depth) && decide (a.back = b.back)) && decide (a.ins = b.ins) && decide (a.outs = b.outs)
theorem natI_dec (a b : List Nat) : decide (natI a = natI b) = decide (a = b) := by
  rw [decide_eq_decide]
  exact ⟨natI_inj, fun h => by rw [h]⟩
theorem sameShape_any (w : World) (x y : ShV) (a b : SM) (ha : IsS w x a) (hb : IsS w y b) (hs : SmallS a) : Calls Tryz.prog 11 #[shV x, shV y] w fun r w' => r = .returned (.bool (sameSM a b)) ∧ Ch No w w' := by
  obtain ⟨⟨a1, n1, c1⟩, ⟨a2, n2, c2⟩, ⟨a3, n3, c3⟩, ⟨a4, n4, c4⟩, ⟨a5, n5, c5⟩, ⟨a6, n6, c6⟩, ⟨a7, n7, c7⟩, ⟨a8, n8, c8⟩, ⟨⟩⟩ := x
  obtain ⟨⟨b1, m1, d1⟩, ⟨b2, m2, d2⟩, ⟨b3, m3, d3⟩, ⟨b4, m4, d4⟩, ⟨b5, m5, d5⟩, ⟨b6, m6, d6⟩, ⟨b7, m7, d7⟩, ⟨b8, m8, d8⟩, ⟨⟩⟩ := y
  obtain ⟨k1, k2, k3, k4, k5, k6, k7, k8, g1, g2, g3, g4, g5, g6, g7, g8⟩ := ha
  obtain ⟨q1, q2, q3, q4, q5, q6, q7, q8, f1, f2, f3, f4, f5, f6, f7, f8⟩ := hb
  obtain ⟨u1, u2, u3, u4, u5, u6, u7, u8, v1, v2⟩ := hs
  dsimp only at *
  subst k1 k2 k3 k4 k5 k6 k7 k8 q1 q2 q3 q4 q5 q6 q7 q8
  refine calls_of_fnT mixed Tryz.func11 (s := s11) ?_
  rw [t11]
  refine nw (cs := [_, _, _, _, _, _, _, _]) fun w1 h1 z1 e1 => nw (cs := [_, _, _, _, _, _, _, _]) fun w2 h2 z2 e2 => ?_
  replace e1 := e1.ch h2 (fun h => h)
  have h02 := h1.trans h2
  generalize w.heap.size = n1 at *
  generalize w1.heap.size = n2 at *
  have ints : ∀ (w' : World), Ch No w w' → ∀ (p q : Option Addr) (c d : Nat) (l m : List Int), AtI w p l → AtI w q m → l.length ≤ 1000000 → Calls Tryz.prog 15 #[.slice p l.length c, .slice q m.length d] w' fun r w2 => r = .returned (.bool (decide (l = m))) ∧ Ch No w' w2 := fun w' hc p q c d l m hl hm hb => sameInts_any w' p q c d l m (hl.ch hc) (hm.ch hc) (by omega)
  have nats : ∀ (w' : World), Ch No w w' → ∀ (p q : Option Addr) (c d : Nat) (l m : List Nat), AtI w p (natI l) → AtI w q (natI m) → l.length ≤ 1000000 → Calls Tryz.prog 15 #[.slice p l.length c, .slice q m.length d] w' fun r w2 => r = .returned (.bool (decide (l = m))) ∧ Ch No w' w2 := fun w' hc p q c d l m hl hm hb => by
    have := ints w' hc p q c d (natI l) (natI m) hl hm (by unfold natI; rw [List.length_map]; exact hb)
    rw [natI_dec] at this
    unfold natI at this
    rw [List.length_map, List.length_map] at this
    exact this
  refine cut_i mixed s11_3 (fun v w' => Ch No w2 w' ∧ v.1 = (decide (a.order = b.order) && decide (a.sources = b.sources) && decide (a.sinks = b.sinks))) (by kernel_rfl) (fun g => ?_) ?_
  · rw [t11_3]
    refine ld_sl (e1.cell 3) (ld_sl (e2.cell 3) (cl_i (nats w2 h02 _ _ _ _ _ _ g4 f4 u4) ?_))
    rintro r w3 ⟨rfl, h3⟩
    refine ⟨_, rfl, br_both (fun o1 => ?_) fun o1 => ⟨rfl, (false, ()), rfl, h3, by rw [o1]; rfl⟩⟩
    refine ld_sl ((e1.ch h3 (fun h => h)).cell 4) (ld_sl ((e2.ch h3 (fun h => h)).cell 4) (cl_i (nats w3 (h02.trans h3) _ _ _ _ _ _ g5 f5 u5) ?_))
    rintro r w4 ⟨rfl, h4⟩
    have h34 := h3.trans h4
    refine ⟨_, rfl, br_both (fun o2 => ?_) fun o2 => ⟨rfl, (false, ()), rfl, h34, by rw [o2, Bool.and_false]; rfl⟩⟩
    refine ld_sl ((e1.ch h34 (fun h => h)).cell 5) (ld_sl ((e2.ch h34 (fun h => h)).cell 5) (cl_i (nats w4 (h02.trans h34) _ _ _ _ _ _ g6 f6 u6) ?_))
    rintro r w5 ⟨rfl, h5⟩
    exact ⟨_, rfl, rfl, (_, ()), rfl, h34.trans h5, by rw [o1, o2]; rfl⟩
  rintro ⟨u, ⟨⟩⟩ g w3 ⟨h3, hu⟩
  dsimp only at hu
  refine cut_i mixed s11_14 (fun v w' => Ch No w3 w' ∧ v.1 = (decide (a.mate = b.mate) && decide (a.depth = b.depth) && decide (a.back = b.back))) (by kernel_rfl) (fun g => ?_) ?_
  · rw [t11_14]
    have h03 := h02.trans h3
    refine ld_sl ((e1.ch h3 (fun h => h)).cell 6) (ld_sl ((e2.ch h3 (fun h => h)).cell 6) (cl_i (ints w3 h03 _ _ _ _ _ _ g7 f7 u7) ?_))
    rintro r w4 ⟨rfl, h4⟩
    have h34 := h3.trans h4
    refine ⟨_, rfl, br_both (fun o1 => ?_) fun o1 => ⟨rfl, (false, ()), rfl, h4, by rw [o1]; rfl⟩⟩
    refine ld_sl ((e1.ch h34 (fun h => h)).cell 7) (ld_sl ((e2.ch h34 (fun h => h)).cell 7) (cl_i (ints w4 (h02.trans h34) _ _ _ _ _ _ g8 f8 u8) ?_))
    rintro r w5 ⟨rfl, h5⟩
    have h35 := h34.trans h5
    refine ⟨_, rfl, br_both (fun o2 => ?_) fun o2 => ⟨rfl, (false, ()), rfl, h4.trans h5, by rw [o2, Bool.and_false]; rfl⟩⟩
    refine ld_sl ((e1.ch h35 (fun h => h)).cell 2) (ld_sl ((e2.ch h35 (fun h => h)).cell 2) (cl_i (sameBools_any w5 _ _ _ _ _ _ (g3.ch (h02.trans h35)) (f3.ch (h02.trans h35)) (by omega)) ?_))
    rintro r w6 ⟨rfl, h6⟩
    exact ⟨_, rfl, rfl, (_, ()), rfl, h4.trans (h5.trans h6), by rw [o1, o2]; rfl⟩
  rintro ⟨v, ⟨⟩⟩ g w4 ⟨h4, hv⟩
  dsimp only at hv ⊢
  have h24 := h3.trans h4
  have h04 := h02.trans h24
  have hsm : sameSM a b = (u && v && decide (a.ins = b.ins) && decide (a.outs = b.outs)) := by unfold sameSM; rw [hu, hv]
  refine br_both (fun o1 => ?_) fun o1 => ⟨by rw [hsm, o1]; rfl, h04⟩
  refine br_both (fun o2 => ?_) fun o2 => ⟨by rw [hsm, o2, Bool.and_false]; rfl, h04⟩
  refine ld_sl ((e1.ch h24 (fun h => h)).cell 0) (ld_sl ((e2.ch h24 (fun h => h)).cell 0) (cl_i (sameLists_any w4 _ _ _ _ _ _ (g1.ch h04) (f1.ch h04) (by omega) (fun r hr => by have := v1 r hr; omega)) ?_))
  rintro r w5 ⟨rfl, h5⟩
  have h25 := h24.trans h5
  have h05 := h02.trans h25
  refine ⟨_, rfl, br_both (fun o3 => ?_) fun o3 => ⟨by rw [hsm, o3, Bool.and_false]; rfl, h05⟩⟩
  refine ld_sl ((e1.ch h25 (fun h => h)).cell 1) (ld_sl ((e2.ch h25 (fun h => h)).cell 1) (cl_i (sameLists_any w5 _ _ _ _ _ _ (g2.ch h05) (f2.ch h05) (by omega) (fun r hr => by have := v2 r hr; omega)) ?_))
  rintro r w6 ⟨rfl, h6⟩
  exact ⟨_, rfl, by rw [hsm, o1, o2, o3]; rfl, h05.trans h6⟩
theorem isBack_any (w : World) (p : PM) (tp ep : Option Addr) (tc ec : Nat) (e : EM) (h : IsP w tp ep p) (h0 : 0 ≤ e.to) (h1 : e.to < p.tasks.length) :
    Calls Tryz.prog 13 #[planV p tp tc ep ec, edgeV e] w fun r w' => r = .returned (.bool (loopsM p e)) ∧ Ch No w w' := by
  refine calls_of_fnT mixed Tryz.func13 (s := s13) ?_
  rw [t13]
  refine nw (cs := [_, _, _]) fun w1 c1 s1 b1 => ?_
  refine nw (cs := [_, _, _, _]) fun w2 c2 s2 b2 => ?_
  have b1' : Blk w2 w.heap.size _ _ := b1.ch c2 (fun h => h)
  have hk : e.to.toNat < p.tasks.length := by omega
  obtain ⟨ta, rfl, -, hkind, -⟩ := (h.ch (c1.trans c2)).tasks e.to.toNat _ (List.getElem?_eq_getElem hk)
  have hka : kindAt p e.to.toNat = (p.tasks[e.to.toNat]).kind := kindAt_of (List.getElem?_eq_getElem hk)
  refine ld_sl (b1'.cell 1) (ld_int (b2.cell 2) (ix_i h0 h1 (ld_int hkind ?_)))
  refine br_both (fun hb => ?_) fun hb => ?_
  · refine ld_int (b2.cell 3) ⟨?_, c1.trans c2⟩
    have hb := beq_iff_eq.1 hb
    unfold loopsM
    rw [hka, hb]
    congr 2
    by_cases h1 : e.inn = 1 <;> simp [h1]
  · refine ⟨?_, c1.trans c2⟩
    unfold loopsM
    rw [hka]
    have hb : ¬ _ = _ := beq_eq_false_iff_ne.1 hb
    congr 2
    exact (decide_eq_false fun hh => hb hh.1).symm
end Go.Proofs.YtkebljkdkaagfaaGreatDoor.S
namespace Go.Proofs.YtkebljkdkaagfaaGreatDoor.S
open Go Tr
set_option maxRecDepth 100000
set_option maxHeartbeats 4000000
def loopP : PM := ⟨2, [⟨[115], 1, 0, []⟩, ⟨[104], 11, 0, []⟩, ⟨[116], 12, 3, [[118, 97, 108]]⟩, ⟨[107], 13, 0, []⟩], [⟨0, 0, 1, 0⟩, ⟨1, 0, 2, 0⟩, ⟨2, 0, 1, 1⟩, ⟨2, 1, 3, 0⟩]⟩
def loopS : SM := ⟨[[], [0, 2], [1], [3]], [[0], [1], [2, 3], []], [false, false, true, false], [0, 1, 2, 3], [0], [3], [-1, 2, 1, -1], [0, 1, 2, 3]⟩
theorem loop_fine : faultM loopP = none := by kernel_rfl
theorem loop_shape : shapeM loopP = loopS := by kernel_rfl
theorem loop_built : buildM loopP = (loopS, 0, 0) := by
  unfold buildM
  rw [loop_fine, loop_shape]
theorem blk_at1 {w : World} {n : Nat} {t : TypeId} {cs : List Value} (h : Blk w n cs t) (i : Nat) : w.cell? ((⟨n, 0, none⟩ : Addr).add i) = cs[i]? := by rw [addr_add, Nat.zero_add]; exact h.cell i
theorem blk_at2 {w : World} {n : Nat} {t : TypeId} {cs : List Value} (h : Blk w n cs t) (i j : Nat) : w.cell? (((⟨n, 0, none⟩ : Addr).add i).add j) = cs[i + j]? := by rw [addr_add, addr_add, Nat.zero_add]; exact h.cell (i + j)
theorem loop_any (w : World) : Calls Tryz.prog 20 #[] w fun r w' => ∃ tp ep tc ec, r = .returned (planV loopP tp tc ep ec) ∧ IsP w' tp ep loopP ∧ Ch No w w' := by
  refine calls_of_fnT mixed Tryz.func20 (s := s20) ?_
  rw [t20]
  refine nw (cs := [_, _, _]) fun w1 c1 s1 b1 => nw (cs := [_]) fun w2 c2 s2 b2 => nw (cs := [_, _, _, _, _, _, _, _, _, _, _, _, _, _, _, _]) fun w3 c3 s3 b3 => nw (cs := [_, _, _, _, _, _, _, _, _, _, _, _, _, _, _, _]) fun w4 c4 s4 b4 => ?_
  have k14 := c2.trans (c3.trans c4)
  refine st_blk (b1.ch k14 (fun h => h)) (by simp) rfl fun w5 c5 s5 d5 => st_blk d5 (by simp) rfl fun w6 c6 s6 d6 => st_blk d6 (by simp) rfl fun w7 c7 s7 d7 => ?_
  have k7 := c5.trans (c6.trans c7)
  refine ld_int (d7.cell 0) (ld_sl (d7.cell 1) (ld_sl (d7.cell 2) ?_))
  have z1 := c2.size
  have z2 := c3.size
  have b2' := (b2.ch (c3.trans c4) (fun h => h)).ch k7 (by have := b2.lt; omega)
  have b3' := (b3.ch c4 (fun h => h)).ch k7 (by have := b3.lt; omega)
  have b4' := b4.ch k7 (by have := b4.lt; have := c4.size; omega)
  refine ⟨_, _, _, _, rfl, ⟨by simp [loopP], by simp [loopP], ?_, ?_⟩, (c1.trans k14).then_ k7 (fun i hi (e : i = w.heap.size) => by omega)⟩
  · intro i t ht
    have hc := blk_at2 b3'
    have hc0 := blk_at1 b3'
    refine ⟨_, rfl, ?_⟩
    match i, ht with
    | 0, ht => obtain rfl := Option.some.inj ht; exact ⟨hc0 0, hc 0 1, hc 0 2, none, 0, hc 0 3, by simp, fun j s h => by simp at h⟩
    | 1, ht => obtain rfl := Option.some.inj ht; exact ⟨hc0 4, hc 4 1, hc 4 2, none, 0, hc 4 3, by simp, fun j s h => by simp at h⟩
    | 2, ht =>
      obtain rfl := Option.some.inj ht
      refine ⟨hc0 8, hc 8 1, hc 8 2, _, _, hc 8 3, by simp, fun j s h => ?_⟩
      match j, h with
      | 0, h => obtain rfl := Option.some.inj h; exact ⟨_, rfl, by rw [addr_add]; exact b2'.cell 0⟩
      | j + 1, h => simp at h
    | 3, ht => obtain rfl := Option.some.inj ht; exact ⟨hc0 12, hc 12 1, hc 12 2, none, 0, hc 12 3, by simp, fun j s h => by simp at h⟩
    | i + 4, ht => simp [loopP] at ht
  · intro i t ht
    have hc := blk_at2 b4'
    have hc0 := blk_at1 b4'
    refine ⟨_, rfl, ?_⟩
    match i, ht with
    | 0, ht => obtain rfl := Option.some.inj ht; exact ⟨hc0 0, hc 0 1, hc 0 2, hc 0 3⟩
    | 1, ht => obtain rfl := Option.some.inj ht; exact ⟨hc0 4, hc 4 1, hc 4 2, hc 4 3⟩
    | 2, ht => obtain rfl := Option.some.inj ht; exact ⟨hc0 8, hc 8 1, hc 8 2, hc 8 3⟩
    | 3, ht => obtain rfl := Option.some.inj ht; exact ⟨hc0 12, hc 12 1, hc 12 2, hc 12 3⟩
    | i + 4, ht => simp [loopP] at ht
theorem blk_atII4 {w : World} {n : Nat} {t : TypeId} {r0 r1 r2 r3 : List Nat} {a0 a1 a2 a3 : Option Addr} {c0 c1 c2 c3 : Nat} (h : Blk w n [.slice a0 r0.length c0, .slice a1 r1.length c1, .slice a2 r2.length c2, .slice a3 r3.length c3] t)
    (h0 : AtI w a0 (natI r0)) (h1 : AtI w a1 (natI r1)) (h2 : AtI w a2 (natI r2)) (h3 : AtI w a3 (natI r3)) : AtII w (some ⟨n, 0, none⟩) [r0, r1, r2, r3] := by
  intro i r hr
  have hc0 := blk_at1 h
  match i, hr with
  | 0, hr => obtain rfl := Option.some.inj hr; exact ⟨_, _, _, rfl, hc0 0, h0⟩
  | 1, hr => obtain rfl := Option.some.inj hr; exact ⟨_, _, _, rfl, hc0 1, h1⟩
  | 2, hr => obtain rfl := Option.some.inj hr; exact ⟨_, _, _, rfl, hc0 2, h2⟩
  | 3, hr => obtain rfl := Option.some.inj hr; exact ⟨_, _, _, rfl, hc0 3, h3⟩
  | i + 4, hr => simp at hr
theorem atI_nil (w : World) (a : Option Addr) : AtI w a [] := fun j x h => by simp at h
theorem known_own (w : World) (hG : GlS w) : Calls Tryz.prog 8 #[] w fun r w' => r = .returned (.bool true) ∧ Ch No w w' := by
  refine calls_of_fnT mixed Tryz.func8 (s := s8) ?_
  rw [t8]
  refine cl_i (loop_any w) ?_
  rintro r w1 ⟨tp, ep, tc, ec, rfl, hP, c1⟩
  refine ⟨(2, (tp, 4, tc), (ep, 4, ec), ()), rfl, ?_⟩
  refine cl_i (build_any w1 loopP tp ep tc ec hP (hG.no c1)) ?_
  rintro r w2 ⟨x, rfl, c2, hS⟩
  rw [loop_built] at hS ⊢
  refine ⟨(x, 0, 0, ()), rfl, ?_⟩
  have hS2 : ∀ W, Ch No w2 W → IsS W x loopS := fun W hc => hS W (hc.mono fun _ h => h.elim)
  obtain ⟨⟨a1, n1, d1⟩, ⟨a2, n2, d2⟩, ⟨a3, n3, d3⟩, ⟨a4, n4, d4⟩, ⟨a5, n5, d5⟩, ⟨a6, n6, d6⟩, ⟨a7, n7, d7⟩, ⟨a8, n8, d8⟩, ⟨⟩⟩ := x
  obtain ⟨l1, l2, l3, l4, l5, l6, l7, l8, -⟩ := hS2 w2 (Ch.refl _ _)
  dsimp only [loopS] at l1 l2 l3 l4 l5 l6 l7 l8
  subst l1 l2 l3 l4 l5 l6 l7 l8
  refine nw (cs := [_, _, _, _, _, _, _, _]) fun w3 k3 z3 b3 => ?_
  refine st_blk b3 (by simp) rfl fun W2 c2 s2 b2 => st_blk b2 (by simp) rfl fun W3 c3 s3 b3 => st_blk b3 (by simp) rfl fun W4 c4 s4 b4 => st_blk b4 (by simp) rfl fun W5 c5 s5 b5 => st_blk b5 (by simp) rfl fun W6 c6 s6 b6 => st_blk b6 (by simp) rfl fun W7 c7 s7 b7 => st_blk b7 (by simp) rfl fun W8 c8 s8 b8 => st_blk b8 (by simp) rfl fun w4 c9 s9 b9 => ?_
  have k4 : Ch No w2 w4 := k3.then_ (c2.trans (c3.trans (c4.trans (c5.trans (c6.trans (c7.trans (c8.trans c9))))))) (fun i hi (e : i = w2.heap.size) => by omega)
  replace c2 := ‹Ch No w1 w2›
  have c04 := (c1.trans c2).trans k4
  refine cut_i mixed s8_4 (fun v W => Ch No w4 W ∧ v.1 = false) (by kernel_rfl) (fun g => ?_) ?_
  · rw [t8_4]
    refine cl_i (num_any w4 0) ?_
    rintro r W ⟨rfl, rfl⟩
    refine ⟨0, rfl, br_false rfl (br_false rfl (ld_sl (b9.cell 2) ?_))⟩
    refine nw (cs := [_, _, _, _]) fun W1 e1 y1 m1 => ?_
    refine cl_i (sameBools_any W1 a3 _ d3 4 [false, false, true, false] [false, false, true, false] (hS2 W1 (k4.trans e1)).back (blk_atBo (l := [false, false, true, false]) m1) (by simp)) ?_
    rintro r W2 ⟨rfl, e2⟩
    refine ⟨true, rfl, br_false rfl ?_⟩
    have e02 := e1.trans e2
    refine ld_sl ((b9.ch e02 (fun h => h)).cell 3) ?_
    refine nw (cs := [_, _, _, _]) fun W3 e3 y3 m3 => ?_
    refine cl_i (sameInts_any W3 a4 _ d4 4 [0, 1, 2, 3] [0, 1, 2, 3] (hS2 W3 (k4.trans (e02.trans e3))).order (blk_atI (l := [0, 1, 2, 3]) m3) (by simp)) ?_
    rintro r W4 ⟨rfl, e4⟩
    exact ⟨true, rfl, rfl, (false, ()), rfl, e02.trans (e3.trans e4), rfl⟩
  rintro ⟨u, ⟨⟩⟩ g w5 ⟨k5, hu⟩
  dsimp only at hu ⊢
  subst hu
  refine br_false rfl ?_
  have k05 := k4.trans k5
  refine cut_i mixed s8_13 (fun v W => Ch No w5 W ∧ v.1 = true) (by kernel_rfl) (fun g => ?_) ?_
  · rw [t8_13]
    refine ld_sl ((b9.ch k5 (fun h => h)).cell 0) ?_
    refine nw (cs := [_, _]) fun W1 e1 y1 m1 => nw (cs := [_]) fun W2 e2 y2 m2 => nw (cs := [_]) fun W3 e3 y3 m3 => nw (cs := [_, _, _, _]) fun W4 e4 y4 m4 => ?_
    have m1' := blk_atI (l := [0, 2]) (m1.ch (e2.trans (e3.trans e4)) (fun h => h))
    have m2' := blk_atI (l := [1]) (m2.ch (e3.trans e4) (fun h => h))
    have m3' := blk_atI (l := [3]) (m3.ch e4 (fun h => h))
    have e04 := e1.trans (e2.trans (e3.trans e4))
    refine cl_i (sameLists_any W4 a1 _ d1 4 [[], [0, 2], [1], [3]] [[], [0, 2], [1], [3]] (hS2 W4 (k05.trans e04)).ins (blk_atII4 (r0 := []) (r1 := [0, 2]) (r2 := [1]) (r3 := [3]) m4 (atI_nil _ _) m1' m2' m3') (by simp) (by simp)) ?_
    rintro r W5 ⟨rfl, e5⟩
    refine ⟨true, rfl, br_true rfl ?_⟩
    have e05 := e04.trans e5
    refine ld_sl ((b9.ch (k5.trans e05) (fun h => h)).cell 1) ?_
    refine nw (cs := [_]) fun X1 f1 y1 m1 => nw (cs := [_]) fun X2 f2 y2 m2 => nw (cs := [_, _]) fun X3 f3 y3 m3 => nw (cs := [_, _, _, _]) fun X4 f4 y4 m4 => ?_
    have m1' := blk_atI (l := [0]) (m1.ch (f2.trans (f3.trans f4)) (fun h => h))
    have m2' := blk_atI (l := [1]) (m2.ch (f3.trans f4) (fun h => h))
    have m3' := blk_atI (l := [2, 3]) (m3.ch f4 (fun h => h))
    have f04 := f1.trans (f2.trans (f3.trans f4))
    refine cl_i (sameLists_any X4 a2 _ d2 4 [[0], [1], [2, 3], []] [[0], [1], [2, 3], []] (hS2 X4 (k05.trans (e05.trans f04))).outs (blk_atII4 (r0 := [0]) (r1 := [1]) (r2 := [2, 3]) (r3 := []) m4 m1' m2' m3' (atI_nil _ _)) (by simp) (by simp)) ?_
    rintro r X5 ⟨rfl, f5⟩
    exact ⟨true, rfl, rfl, (true, ()), rfl, e05.trans (f04.trans f5), rfl⟩
  rintro ⟨u, ⟨⟩⟩ g w6 ⟨k6, hu⟩
  dsimp only at hu ⊢
  subst hu
  refine br_true rfl ?_
  have k06 := k05.trans k6
  refine ld_sl ((b9.ch (k5.trans k6) (fun h => h)).cell 6) ?_
  refine nw (cs := [_, _, _, _]) fun W1 e1 y1 m1 => ?_
  refine cl_i (sameInts_any W1 a7 _ d7 4 [-1, 2, 1, -1] [-1, 2, 1, -1] (hS2 W1 (k06.trans e1)).mate (blk_atI (l := [-1, 2, 1, -1]) m1) (by simp)) ?_
  rintro r W2 ⟨rfl, e2⟩
  refine ⟨true, rfl, br_true rfl ?_⟩
  have e02 := e1.trans e2
  refine ld_sl ((b9.ch (k5.trans (k6.trans e02)) (fun h => h)).cell 7) ?_
  refine nw (cs := [_, _, _, _]) fun W3 e3 y3 m3 => ?_
  refine cl_i (sameInts_any W3 a8 _ d8 4 [0, 1, 2, 3] [0, 1, 2, 3] (hS2 W3 (k06.trans (e02.trans e3))).depth (blk_atI (l := [0, 1, 2, 3]) m3) (by simp)) ?_
  rintro r W4 ⟨rfl, e4⟩
  exact ⟨true, rfl, rfl, (c1.trans c2).trans (k06.trans (e02.trans (e3.trans e4)))⟩
end Go.Proofs.YtkebljkdkaagfaaGreatDoor.S
