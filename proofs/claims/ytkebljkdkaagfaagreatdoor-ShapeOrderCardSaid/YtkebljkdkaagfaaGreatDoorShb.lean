/- Build's checks of names, kinds, expressions, edges. -/
import Derived.Test.YtkebljkdkaagfaaGreatDoorSha
namespace Go.Proofs.YtkebljkdkaagfaaGreatDoor.S
open Go Tr
set_option maxRecDepth 100000
set_option maxHeartbeats 2000000
/-! the tree of function 42 -/
abbrev fx42_1 (qs0 : ByteArray) : List (Tmp × Value) := [(0, .string qs0)]
abbrev mx42_1 : List (Tmp × Comp) := [(11, .leaf .bool)]
def s42_1 : Script := .sym (.lit (.lit (.lit .nil))) (.lit (.lit (.lit .nil)))
theorem t42_1 (qs0 : ByteArray) (gg1 : Nat → Value) : pieceT Tryz.prog (at_ Tryz.f42 [1, 0, 0]) 40 (fx42_1 qs0) gg1 (mx42_1.map (·.1)) [] [] s42_1 = .br (qs0.toList == (bytesL []).toList) (.fin .normal [(11, .bool true)]) (.fin .normal [(11, .bool (Decidable.decide ((↑qs0.size : Int) > 8)))]) := by kernel_rfl
abbrev fx42_3 (qs0 : ByteArray) : List (Tmp × Value) := [(0, .string qs0), (13, .int .i64 (↑qs0.size : Int))]
abbrev m42_3 : List (Tmp × Comp) := [(14, .leaf (.int .i64))]
abbrev mx42_3 : List (Tmp × Comp) := []
abbrev mr42_3 : List (Tmp × Comp) := [(2, .leaf .bool)]
def s42_3 : Script := .sym (.ix (.sym (.lit (.lit (.sym (.lit (.lit (.lit (.lit (.lit (.lit (.lit .nil))))))) (.lit (.lit (.sym (.lit (.lit (.lit (.lit (.sym (.lit (.lit (.lit (.lit (.sym .nil .nil))))) (.lit (.lit (.lit (.lit (.lit .nil)))))))))) (.lit (.lit (.lit (.lit (.lit (.lit (.lit (.lit (.lit (.lit .nil)))))))))))))))) (.lit (.lit (.lit (.lit (.lit (.sym (.lit (.lit (.lit (.lit (.sym (.lit (.lit (.lit (.lit (.sym .nil .nil))))) (.lit (.lit (.lit (.lit (.lit .nil)))))))))) (.lit (.lit (.lit (.lit (.lit (.lit (.lit (.lit (.lit (.lit .nil)))))))))))))))))) .nil
theorem t42_3 (qs0 : ByteArray) (x_14 : Int) (gg3 : Nat → Value) : pieceT Tryz.prog (at_ Tryz.f42 [1, 1, 0, 1, 0, 0]) 40 (fx42_3 qs0 ++ mvals m42_3 (x_14, ())) gg3 (m42_3.map (·.1)) (mx42_3.map (·.1)) (mr42_3.map (·.1)) s42_3 = .br (Decidable.decide (x_14 < (↑qs0.size : Int))) (.bidx qs0 x_14 (fun c4 => .br (Decidable.decide (c4 ≥ 97)) (.br (Decidable.decide (c4 ≤ 122)) (.fin .normal [(14, .int .i64 (IntKind.i64.wrap (x_14 + 1)))]) (.br (Decidable.decide (x_14 > 0)) (.br (Decidable.decide (c4 ≥ 48)) (.br (!Decidable.decide (c4 ≤ 57)) (.fin .ret [(2, .bool false)]) (.fin .normal [(14, .int .i64 (IntKind.i64.wrap (x_14 + 1)))])) (.fin .ret [(2, .bool false)])) (.fin .ret [(2, .bool false)]))) (.br (Decidable.decide (x_14 > 0)) (.br (Decidable.decide (c4 ≥ 48)) (.br (!Decidable.decide (c4 ≤ 57)) (.fin .ret [(2, .bool false)]) (.fin .normal [(14, .int .i64 (IntKind.i64.wrap (x_14 + 1)))])) (.fin .ret [(2, .bool false)])) (.fin .ret [(2, .bool false)])))) (.fin (.exit 0) []) := by kernel_rfl
def s42 : Script := .ct 2 [0] mx42_1 (.sym .nil (.lp 0 [0, 13] [14] mx42_3 mr42_3 .nil .nil))
theorem t42 (qs0 : ByteArray) : fnT Tryz.prog Tryz.f42 #[.string qs0] s42 = .cut (at_ Tryz.f42 [1, 0, 0]) 40 (fx42_1 qs0) mx42_1 (fun u2 g2 => .br u2.1 (.done (.returned (.bool false))) (.loop (at_ Tryz.f42 [1, 1, 0, 1, 0, 0]) 40 (fx42_3 qs0) [(14, .int .i64 0)] mx42_3 mr42_3 0 (fun u5 g5 => .done (.returned (.bool true))) (fun u6 g6 => .done (.returned (.bool u6.1))))) := by kernel_rfl
/-! the tree of function 31 -/
abbrev fx31_3 (n1 : Nat) (l2 : Option Addr × Nat × Nat) : List (Tmp × Value) := [(1, .pointer (some ⟨n1, 0, none⟩)), (7, .slice l2.1 l2.2.1 l2.2.2), (8, .int .i64 (↑l2.snd.fst : Int))]
abbrev m31_3 : List (Tmp × Comp) := [(9, .leaf (.int .i64))]
abbrev mx31_3 : List (Tmp × Comp) := []
abbrev mr31_3 : List (Tmp × Comp) := [(2, .leaf (.int .i64))]
abbrev fx31_12 (n1 : Nat) (l2 : Option Addr × Nat × Nat) (x_9 : Int) (n9 : Nat) : List (Tmp × Value) := [(1, .pointer (some ⟨n1, 0, none⟩)), (3, .int .i64 x_9), (4, .pointer (some ⟨n9, 0, none⟩)), (7, .slice l2.1 l2.2.1 l2.2.2), (8, .int .i64 (↑l2.snd.fst : Int)), (9, .int .i64 x_9), (19, .int .i64 x_9)]
abbrev m31_12 : List (Tmp × Comp) := [(20, .leaf (.int .i64))]
abbrev mx31_12 : List (Tmp × Comp) := []
abbrev mr31_12 : List (Tmp × Comp) := [(2, .leaf (.int .i64))]
def s31_12 : Script := .sym (.qt (.ld .sl (.ix (.ld .str (.ld .str (.sym .nil .nil)))))) .nil
theorem t31_12 (n1 : Nat) (l2 : Option Addr × Nat × Nat) (x_9 : Int) (n9 : Nat) (x_20 : Int) (gg12 : Nat → Value) : pieceT Tryz.prog (at_ Tryz.f31 [1, 0, 1, 0, 0, 1, 1, 0, 0, 1, 1, 1, 0, 0]) 35 (fx31_12 n1 l2 x_9 n9 ++ mvals m31_12 (x_20, ())) gg12 (m31_12.map (·.1)) (mx31_12.map (·.1)) (mr31_12.map (·.1)) s31_12 = .br (Decidable.decide (x_20 < x_9)) (.drawn (.load ⟨n1, 1, none⟩ .sl (fun l13 => .idx l13.1 x_20 l13.2.1 4 (fun a14 => .load a14 .str (fun s15 => .load ⟨n9, 0, none⟩ .str (fun s16 => .undrawn (.br (s15.toList == s16.toList) (.fin .ret [(2, .int .i64 x_9)]) (.fin .normal [(20, .int .i64 (IntKind.i64.wrap (x_20 + 1)))])))))))) (.fin (.exit 2) []) := by kernel_rfl
def s31_3 : Script := .sym (.ix (.ld .str (.ld (.int .i64) (.ld (.int .i64) (.ld .sl (.ld .str (.cl (.one (.leaf .bool)) (.sym .nil (.lp 2 [1, 3, 4, 7, 8, 9, 19] [20] mx31_12 mr31_12 .nil .nil))))))))) .nil
theorem t31_3 (n1 : Nat) (l2 : Option Addr × Nat × Nat) (x_9 : Int) (gg3 : Nat → Value) : pieceT Tryz.prog (at_ Tryz.f31 [1, 0, 1, 0, 0]) 35 (fx31_3 n1 l2 ++ mvals m31_3 (x_9, ())) gg3 (m31_3.map (·.1)) (mx31_3.map (·.1)) (mr31_3.map (·.1)) s31_3 = .br (Decidable.decide (x_9 < (↑l2.snd.fst : Int))) (.idx l2.1 x_9 l2.2.1 4 (fun a4 => .load a4 .str (fun s5 => .load (a4.add 1) (.int .i64) (fun x6 => .load (a4.add 2) (.int .i64) (fun x7 => .load (a4.add 3) .sl (fun l8 => .new (.cells #[.string (bytesL []), .int .i64 0, .int .i64 0, .slice none 0 0] 46 (0, 0)) (fun n9 => .store ⟨n9, 0, none⟩ (.string s5) (.store ⟨n9, 1, none⟩ (.int .i64 x6) (.store ⟨n9, 2, none⟩ (.int .i64 x7) (.store ⟨n9, 3, none⟩ (.slice l8.1 l8.2.1 l8.2.2) (.load ⟨n9, 0, none⟩ .str (fun s10 => .call 42 #[.string s10] (.one (.leaf .bool)) (fun b11 => .br (!b11) (.fin .ret [(2, .int .i64 x_9)]) (.loop (at_ Tryz.f31 [1, 0, 1, 0, 0, 1, 1, 0, 0, 1, 1, 1, 0, 0]) 35 (fx31_12 n1 l2 x_9 n9) [(20, .int .i64 0)] mx31_12 mr31_12 2 (fun u17 g17 => .fin .normal [(9, .int .i64 (IntKind.i64.wrap (x_9 + 1)))]) (fun u18 g18 => .fin .ret [(2, .int .i64 u18.1)]))))))))))))))) (.fin (.exit 0) []) := by kernel_rfl
def s31 : Script := .ld .sl (.lp 0 [1, 7, 8] [9] mx31_3 mr31_3 .nil .nil)
theorem t31 (qx0_0 : Int) (qa0_1 : Option Addr) (qn0_1 : Nat) (qc0_1 : Nat) (qa0_2 : Option Addr) (qn0_2 : Nat) (qc0_2 : Nat) : fnT Tryz.prog Tryz.f31 #[.agg #[.int .i64 qx0_0, .slice qa0_1 qn0_1 qc0_1, .slice qa0_2 qn0_2 qc0_2]] s31 = .new (.cells #[.int .i64 qx0_0, .slice qa0_1 qn0_1 qc0_1, .slice qa0_2 qn0_2 qc0_2] 25 (0, 0)) (fun n1 => .load ⟨n1, 1, none⟩ .sl (fun l2 => .loop (at_ Tryz.f31 [1, 0, 1, 0, 0]) 35 (fx31_3 n1 l2) [(9, .int .i64 0)] mx31_3 mr31_3 0 (fun u19 g19 => .done (.returned (.int .i64 (-1)))) (fun u20 g20 => .done (.returned (.int .i64 u20.1))))) := by kernel_rfl
/-! the tree of function 32 -/
abbrev fx32_3 (l2 : Option Addr × Nat × Nat) : List (Tmp × Value) := [(6, .slice l2.1 l2.2.1 l2.2.2), (7, .int .i64 (↑l2.snd.fst : Int))]
abbrev m32_3 : List (Tmp × Comp) := [(8, .leaf (.int .i64))]
abbrev mx32_3 : List (Tmp × Comp) := []
abbrev mr32_3 : List (Tmp × Comp) := [(2, .leaf (.int .i64))]
def s32_3 : Script := .sym (.ix (.ld .str (.ld (.int .i64) (.ld (.int .i64) (.ld .sl (.qt (.ld (.int .i64) (.cl (.one (.leaf .bool)) (.sym (.lit (.lit (.lit (.lit (.lit (.lit (.lit (.lit (.lit (.lit (.lit (.lit (.lit (.lit (.lit (.lit (.lit (.lit .nil)))))))))))))))))) (.lit (.ld (.int .i64) (.lit (.lit (.ld (.int .i64) (.lit (.ix (.lit (.lit (.ld (.int .i64) (.lit (.lit (.sym (.lit (.lit (.lit (.lit (.lit (.lit (.lit (.lit (.lit .nil))))))))) (.lit (.ld (.int .i64) (.lit (.lit (.ld (.int .i64) (.lit (.ix (.lit (.lit (.ld (.int .i64) (.lit (.lit (.sym .nil .nil))))))))))))))))))))))))))))))))))) .nil
theorem t32_3 (l2 : Option Addr × Nat × Nat) (x_8 : Int) (gg3 : Nat → Value) : pieceT Tryz.prog (at_ Tryz.f32 [1, 0, 1, 0, 0]) 39 (fx32_3 l2 ++ mvals m32_3 (x_8, ())) gg3 (m32_3.map (·.1)) (mx32_3.map (·.1)) (mr32_3.map (·.1)) s32_3 = .br (Decidable.decide (x_8 < (↑l2.snd.fst : Int))) (.idx l2.1 x_8 l2.2.1 4 (fun a4 => .load a4 .str (fun s5 => .load (a4.add 1) (.int .i64) (fun x6 => .load (a4.add 2) (.int .i64) (fun x7 => .load (a4.add 3) .sl (fun l8 => .new (.cells #[.string (bytesL []), .int .i64 0, .int .i64 0, .slice none 0 0] 46 (0, 0)) (fun n9 => .store ⟨n9, 0, none⟩ (.string s5) (.store ⟨n9, 1, none⟩ (.int .i64 x6) (.store ⟨n9, 2, none⟩ (.int .i64 x7) (.store ⟨n9, 3, none⟩ (.slice l8.1 l8.2.1 l8.2.2) (.drawn (.load ⟨n9, 1, none⟩ (.int .i64) (fun x10 => .call 26 #[.int .i64 x10] (.one (.leaf .bool)) (fun b11 => .br (!b11) (.undrawn (.fin .ret [(2, .int .i64 x_8)])) (.load ⟨n9, 2, none⟩ (.int .i64) (fun x12 => .load ⟨n9, 1, none⟩ (.int .i64) (fun x13 => .idx (some ⟨0, 0, none⟩) x13 14 7 (fun a14 => .load (a14.add 4) (.int .i64) (fun x15 => .br (Decidable.decide (x12 < x15)) (.undrawn (.fin .ret [(2, .int .i64 x_8)])) (.load ⟨n9, 2, none⟩ (.int .i64) (fun x16 => .load ⟨n9, 1, none⟩ (.int .i64) (fun x17 => .idx (some ⟨0, 0, none⟩) x17 14 7 (fun a18 => .load (a18.add 5) (.int .i64) (fun x19 => .undrawn (.br (Decidable.decide (x16 > x19)) (.fin .ret [(2, .int .i64 x_8)]) (.fin .normal [(8, .int .i64 (IntKind.i64.wrap (x_8 + 1)))])))))))))))))))))))))))))) (.fin (.exit 0) []) := by kernel_rfl
def s32 : Script := .ld .sl (.lp 0 [6, 7] [8] mx32_3 mr32_3 .nil .nil)
theorem t32 (qx0_0 : Int) (qa0_1 : Option Addr) (qn0_1 : Nat) (qc0_1 : Nat) (qa0_2 : Option Addr) (qn0_2 : Nat) (qc0_2 : Nat) : fnT Tryz.prog Tryz.f32 #[.agg #[.int .i64 qx0_0, .slice qa0_1 qn0_1 qc0_1, .slice qa0_2 qn0_2 qc0_2]] s32 = .new (.cells #[.int .i64 qx0_0, .slice qa0_1 qn0_1 qc0_1, .slice qa0_2 qn0_2 qc0_2] 25 (0, 0)) (fun n1 => .load ⟨n1, 1, none⟩ .sl (fun l2 => .loop (at_ Tryz.f32 [1, 0, 1, 0, 0]) 39 (fx32_3 l2) [(8, .int .i64 0)] mx32_3 mr32_3 0 (fun u20 g20 => .done (.returned (.int .i64 (-1)))) (fun u21 g21 => .done (.returned (.int .i64 u21.1))))) := by kernel_rfl
/-! the tree of function 33 -/
abbrev fx33_3 (l2 : Option Addr × Nat × Nat) : List (Tmp × Value) := [(8, .slice l2.1 l2.2.1 l2.2.2), (9, .int .i64 (↑l2.snd.fst : Int))]
abbrev m33_3 : List (Tmp × Comp) := [(10, .leaf (.int .i64))]
abbrev mx33_3 : List (Tmp × Comp) := []
abbrev mr33_3 : List (Tmp × Comp) := [(2, .leaf (.int .i64))]
abbrev fx33_15 (l2 : Option Addr × Nat × Nat) (x_10 : Int) (l14 : Option Addr × Nat × Nat) : List (Tmp × Value) := [(3, .int .i64 x_10), (8, .slice l2.1 l2.2.1 l2.2.2), (9, .int .i64 (↑l2.snd.fst : Int)), (10, .int .i64 x_10), (26, .slice l14.1 l14.2.1 l14.2.2), (27, .int .i64 (↑l14.snd.fst : Int))]
abbrev m33_15 : List (Tmp × Comp) := [(28, .leaf (.int .i64))]
abbrev mx33_15 : List (Tmp × Comp) := []
abbrev mr33_15 : List (Tmp × Comp) := [(2, .leaf (.int .i64))]
def s33_15 : Script := .sym (.ix (.ld .str (.cl (.one (.leaf .any)) (.rn (.one (.leaf .bool)) (.sym .nil .nil))))) .nil
theorem t33_15 (l2 : Option Addr × Nat × Nat) (x_10 : Int) (l14 : Option Addr × Nat × Nat) (x_28 : Int) (gg15 : Nat → Value) : pieceT Tryz.prog (at_ Tryz.f33 [1, 0, 1, 0, 0, 1, 1, 0, 0, 1, 1, 1, 0, 0]) 38 (fx33_15 l2 x_10 l14 ++ mvals m33_15 (x_28, ())) gg15 (m33_15.map (·.1)) (mx33_15.map (·.1)) (mr33_15.map (·.1)) s33_15 = .br (Decidable.decide (x_28 < (↑l14.snd.fst : Int))) (.idx l14.1 x_28 l14.2.1 1 (fun a16 => .load a16 .str (fun s17 => .call 43 #[.string s17] (.one (.leaf .any)) (fun v18 => .run (vNext (guarded .neq 84 (.tmp 33) (.const .nilIface) v18 .nilIface)) (.one (.leaf .bool)) (fun b19 => .br b19 (.fin .ret [(2, .int .i64 x_10)]) (.fin .normal [(28, .int .i64 (IntKind.i64.wrap (x_28 + 1)))])))))) (.fin (.exit 2) []) := by kernel_rfl
def s33_3 : Script := .sym (.ix (.ld .str (.ld (.int .i64) (.ld (.int .i64) (.ld .sl (.qt (.ld .sl (.ld (.int .i64) (.ix (.ld (.int .i64) (.sym .nil (.ld .sl (.lp 2 [3, 8, 9, 10, 26, 27] [28] mx33_15 mr33_15 .nil .nil))))))))))))) .nil
theorem t33_3 (l2 : Option Addr × Nat × Nat) (x_10 : Int) (gg3 : Nat → Value) : pieceT Tryz.prog (at_ Tryz.f33 [1, 0, 1, 0, 0]) 38 (fx33_3 l2 ++ mvals m33_3 (x_10, ())) gg3 (m33_3.map (·.1)) (mx33_3.map (·.1)) (mr33_3.map (·.1)) s33_3 = .br (Decidable.decide (x_10 < (↑l2.snd.fst : Int))) (.idx l2.1 x_10 l2.2.1 4 (fun a4 => .load a4 .str (fun s5 => .load (a4.add 1) (.int .i64) (fun x6 => .load (a4.add 2) (.int .i64) (fun x7 => .load (a4.add 3) .sl (fun l8 => .new (.cells #[.string (bytesL []), .int .i64 0, .int .i64 0, .slice none 0 0] 46 (0, 0)) (fun n9 => .store ⟨n9, 0, none⟩ (.string s5) (.store ⟨n9, 1, none⟩ (.int .i64 x6) (.store ⟨n9, 2, none⟩ (.int .i64 x7) (.store ⟨n9, 3, none⟩ (.slice l8.1 l8.2.1 l8.2.2) (.drawn (.load ⟨n9, 3, none⟩ .sl (fun l10 => .load ⟨n9, 1, none⟩ (.int .i64) (fun x11 => .idx (some ⟨0, 0, none⟩) x11 14 7 (fun a12 => .load (a12.add 6) (.int .i64) (fun x13 => .undrawn (.br ((↑l10.snd.fst : Int) != x13) (.fin .ret [(2, .int .i64 x_10)]) (.load ⟨n9, 3, none⟩ .sl (fun l14 => .loop (at_ Tryz.f33 [1, 0, 1, 0, 0, 1, 1, 0, 0, 1, 1, 1, 0, 0]) 38 (fx33_15 l2 x_10 l14) [(28, .int .i64 0)] mx33_15 mr33_15 2 (fun u20 g20 => .fin .normal [(10, .int .i64 (IntKind.i64.wrap (x_10 + 1)))]) (fun u21 g21 => .fin .ret [(2, .int .i64 u21.1)])))))))))))))))))))) (.fin (.exit 0) []) := by kernel_rfl
def s33 : Script := .ld .sl (.lp 0 [8, 9] [10] mx33_3 mr33_3 .nil .nil)
theorem t33 (qx0_0 : Int) (qa0_1 : Option Addr) (qn0_1 : Nat) (qc0_1 : Nat) (qa0_2 : Option Addr) (qn0_2 : Nat) (qc0_2 : Nat) : fnT Tryz.prog Tryz.f33 #[.agg #[.int .i64 qx0_0, .slice qa0_1 qn0_1 qc0_1, .slice qa0_2 qn0_2 qc0_2]] s33 = .new (.cells #[.int .i64 qx0_0, .slice qa0_1 qn0_1 qc0_1, .slice qa0_2 qn0_2 qc0_2] 25 (0, 0)) (fun n1 => .load ⟨n1, 1, none⟩ .sl (fun l2 => .loop (at_ Tryz.f33 [1, 0, 1, 0, 0]) 38 (fx33_3 l2) [(10, .int .i64 0)] mx33_3 mr33_3 0 (fun u22 g22 => .done (.returned (.int .i64 (-1)))) (fun u23 g23 => .done (.returned (.int .i64 u23.1))))) := by kernel_rfl
/-! the tree of function 34 -/
abbrev fx34_4 (l2 : Option Addr × Nat × Nat) (l3 : Option Addr × Nat × Nat) : List (Tmp × Value) := [(3, .int .i64 (↑l2.snd.fst : Int)), (10, .slice l3.1 l3.2.1 l3.2.2), (11, .int .i64 (↑l3.snd.fst : Int))]
abbrev m34_4 : List (Tmp × Comp) := [(12, .leaf (.int .i64))]
abbrev mx34_4 : List (Tmp × Comp) := []
abbrev mr34_4 : List (Tmp × Comp) := [(2, .leaf (.int .i64))]
def s34_4 : Script := .sym (.ix (.ld (.int .i64) (.ld (.int .i64) (.ld (.int .i64) (.ld (.int .i64) (.ld (.int .i64) (.sym (.lit (.lit (.lit (.lit (.lit (.lit (.lit (.lit (.lit (.lit (.lit (.lit (.lit (.lit (.lit (.lit (.lit (.lit (.lit (.lit (.lit (.lit (.lit (.lit (.lit (.lit (.lit (.lit (.lit (.lit .nil)))))))))))))))))))))))))))))) (.lit (.ld (.int .i64) (.lit (.lit (.lit (.sym (.lit (.lit (.lit (.lit (.lit (.lit (.lit (.lit (.lit (.lit (.lit (.lit (.lit (.lit (.lit (.lit (.lit (.lit (.lit (.lit (.lit (.lit (.lit (.lit (.lit .nil))))))))))))))))))))))))) (.lit (.ld (.int .i64) (.lit (.lit (.sym (.lit (.lit (.lit (.lit (.lit (.lit (.lit (.lit (.lit (.lit (.lit (.lit (.lit (.lit (.lit (.lit (.lit (.lit (.lit (.lit (.lit .nil))))))))))))))))))))) (.lit (.ld (.int .i64) (.lit (.lit (.lit (.sym (.lit (.lit (.lit (.lit (.lit (.lit (.lit (.lit (.lit (.lit (.lit (.lit (.lit (.lit (.lit (.lit .nil)))))))))))))))) (.lit (.ld (.int .i64) (.lit (.lit (.sym (.lit (.lit (.lit (.lit (.lit (.lit (.lit (.lit (.lit (.lit (.lit (.lit .nil)))))))))))) (.lit (.ld (.int .i64) (.lit (.lit (.sym (.lit (.lit (.lit (.lit (.lit (.lit (.lit (.lit .nil)))))))) (.lit (.ld (.int .i64) (.lit (.lit (.sym (.lit (.lit (.lit (.lit .nil)))) (.lit (.ld (.int .i64) (.lit (.lit (.sym .nil .nil)))))))))))))))))))))))))))))))))))))))))))) .nil
theorem t34_4 (l2 : Option Addr × Nat × Nat) (l3 : Option Addr × Nat × Nat) (x_12 : Int) (gg4 : Nat → Value) : pieceT Tryz.prog (at_ Tryz.f34 [1, 1, 0, 1, 0, 0]) 59 (fx34_4 l2 l3 ++ mvals m34_4 (x_12, ())) gg4 (m34_4.map (·.1)) (mx34_4.map (·.1)) (mr34_4.map (·.1)) s34_4 = .br (Decidable.decide (x_12 < (↑l3.snd.fst : Int))) (.idx l3.1 x_12 l3.2.1 4 (fun a5 => .load a5 (.int .i64) (fun x6 => .load (a5.add 1) (.int .i64) (fun x7 => .load (a5.add 2) (.int .i64) (fun x8 => .load (a5.add 3) (.int .i64) (fun x9 => .new (.cells #[.int .i64 0, .int .i64 0, .int .i64 0, .int .i64 0] 39 (0, 0)) (fun n10 => .store ⟨n10, 0, none⟩ (.int .i64 x6) (.store ⟨n10, 1, none⟩ (.int .i64 x7) (.store ⟨n10, 2, none⟩ (.int .i64 x8) (.store ⟨n10, 3, none⟩ (.int .i64 x9) (.load ⟨n10, 0, none⟩ (.int .i64) (fun x11 => .br (Decidable.decide (x11 < 0)) (.fin .ret [(2, .int .i64 x_12)]) (.load ⟨n10, 0, none⟩ (.int .i64) (fun x12 => .br (Decidable.decide (x12 ≥ (↑l2.snd.fst : Int))) (.fin .ret [(2, .int .i64 x_12)]) (.load ⟨n10, 2, none⟩ (.int .i64) (fun x13 => .br (Decidable.decide (x13 < 0)) (.fin .ret [(2, .int .i64 x_12)]) (.load ⟨n10, 2, none⟩ (.int .i64) (fun x14 => .br (Decidable.decide (x14 ≥ (↑l2.snd.fst : Int))) (.fin .ret [(2, .int .i64 x_12)]) (.load ⟨n10, 1, none⟩ (.int .i64) (fun x15 => .br (Decidable.decide (x15 < 0)) (.fin .ret [(2, .int .i64 x_12)]) (.load ⟨n10, 1, none⟩ (.int .i64) (fun x16 => .br (Decidable.decide (x16 ≥ 4)) (.fin .ret [(2, .int .i64 x_12)]) (.load ⟨n10, 3, none⟩ (.int .i64) (fun x17 => .br (Decidable.decide (x17 < 0)) (.fin .ret [(2, .int .i64 x_12)]) (.load ⟨n10, 3, none⟩ (.int .i64) (fun x18 => .br (Decidable.decide (x18 ≥ 4)) (.fin .ret [(2, .int .i64 x_12)]) (.fin .normal [(12, .int .i64 (IntKind.i64.wrap (x_12 + 1)))]))))))))))))))))))))))))))) (.fin (.exit 0) []) := by kernel_rfl
def s34 : Script := .ld .sl (.ld .sl (.lp 0 [3, 10, 11] [12] mx34_4 mr34_4 .nil .nil))
theorem t34 (qx0_0 : Int) (qa0_1 : Option Addr) (qn0_1 : Nat) (qc0_1 : Nat) (qa0_2 : Option Addr) (qn0_2 : Nat) (qc0_2 : Nat) : fnT Tryz.prog Tryz.f34 #[.agg #[.int .i64 qx0_0, .slice qa0_1 qn0_1 qc0_1, .slice qa0_2 qn0_2 qc0_2]] s34 = .new (.cells #[.int .i64 qx0_0, .slice qa0_1 qn0_1 qc0_1, .slice qa0_2 qn0_2 qc0_2] 25 (0, 0)) (fun n1 => .load ⟨n1, 1, none⟩ .sl (fun l2 => .load ⟨n1, 2, none⟩ .sl (fun l3 => .loop (at_ Tryz.f34 [1, 1, 0, 1, 0, 0]) 59 (fx34_4 l2 l3) [(12, .int .i64 0)] mx34_4 mr34_4 0 (fun u19 g19 => .done (.returned (.int .i64 (-1)))) (fun u20 g20 => .done (.returned (.int .i64 u20.1)))))) := by kernel_rfl
/-- What a check's loop has told. -/
def Told (n : Nat) (bad : Nat → Bool) (w : World) (x : Int) (w' : World) : Prop := ∃ i : Nat, x = (i : Nat) ∧ i ≤ n ∧ Ch No w w' ∧ ∀ j, j < i → bad j = false
theorem Told.start (n : Nat) (bad : Nat → Bool) (w : World) : Told n bad w 0 w := ⟨0, rfl, Nat.zero_le _, Ch.refl _ _, fun j h => by omega⟩
theorem Told.step {n : Nat} {bad : Nat → Bool} {w w1 w2 : World} {i : Nat} (hi : i < n) (hn : n ≤ 9223372036854775807) (h : Ch No w w1) (h1 : ∀ j, j < i → bad j = false) (c : Ch No w1 w2) (hb : bad i = false) : Told n bad w (IntKind.i64.wrap ((i : Nat) + 1)) w2 :=
  ⟨i + 1, by rw [wrap_succ (by omega) (by omega)]; rfl, hi, h.trans c, fun j hj => by
    by_cases e : j = i
    · rw [e]; exact hb
    · exact h1 j (by omega)⟩
theorem Told.less {n i : Nat} (hi : i < n) (hn : n ≤ 9223372036854775807) : n - (IntKind.i64.wrap ((i : Nat) + 1)).toNat < n - ((i : Nat) : Int).toNat := by
  rw [wrap_succ (by omega) (by omega)]; omega
theorem some_at {α : Type} {l : List α} {i : Nat} (h : i < l.length) : ∃ x, l[i]? = some x := ⟨_, List.getElem?_eq_getElem h⟩
theorem plain_any (w : World) (s : List UInt8) : Calls Tryz.prog 42 #[.string (bytesL s)] w fun r w' => r = .returned (.bool (plainB s)) ∧ w' = w := by
  refine calls_of_fnT mixed Tryz.func42 (s := s42) ?_
  rw [t42]
  refine cut_i mixed s42_1 (fun v w' => w' = w ∧ v.1 = (decide (s = []) || decide (s.length > 8))) (by kernel_rfl) (fun g => ?_) ?_
  · rw [t42_1, tb_list, tb_list]
    refine br_both (fun e => ?_) fun e => ?_
    · have e := eq_of_beq e
      exact ⟨rfl, (true, ()), rfl, rfl, by rw [e]; rfl⟩
    · have e : s ≠ [] := fun h => by rw [h] at e; cases e
      refine ⟨rfl, (_, ()), rfl, rfl, ?_⟩
      rw [decide_eq_false e, Bool.false_or, tb_size]
      show decide ((s.length : Int) > 8) = decide (s.length > 8)
      rw [decide_eq_decide]
      omega
  rintro ⟨b, ⟨⟩⟩ g w' ⟨rfl, hb⟩
  dsimp only at hb
  subst hb
  refine br_both (fun e => ⟨?_, rfl⟩) fun e => ?_
  · unfold plainB
    rw [Bool.or_eq_true, decide_eq_true_eq, decide_eq_true_eq] at e
    rcases e with e | e
    · rw [decide_eq_false (show ¬ s ≠ [] from fun h => h e), Bool.false_and, Bool.false_and]
    · rw [decide_eq_false (show ¬ s.length ≤ 8 by omega), Bool.and_false, Bool.false_and]
  rw [Bool.or_eq_false_iff, decide_eq_false_iff_not, decide_eq_false_iff_not] at e
  obtain ⟨e1, e2⟩ := e
  have hpl : plainB s = (List.range s.length).all (plainAt s) := by
    unfold plainB
    rw [decide_eq_true e1, decide_eq_true (show s.length ≤ 8 by omega), Bool.true_and, Bool.true_and]
  refine loop_i mixed m42_3 s42_3 (by kernel_rfl) (by kernel_rfl) (fun v w2 => w2 = w' ∧ ∃ i : Nat, v.1 = (i : Nat) ∧ i ≤ s.length ∧ ∀ j, j < i → plainAt s j = true) (fun v _ => s.length - v.1.toNat) (0, ()) rfl ⟨rfl, 0, rfl, Nat.zero_le _, fun j h => by omega⟩ ?_
  rintro ⟨_, ⟨⟩⟩ g w2 ⟨rfl, i, rfl, hi, hall⟩
  rw [t42_3]
  rw [tb_size]
  refine br_both (fun e => ?_) fun e => ?_
  · have e := lt_t e
    have hi' : i < s.length := by omega
    have hch : ((bytesL s)[((i : Nat) : Int).toNat]'(by rw [tb_size]; omega)) = s[i] := by
      simp only [Int.toNat_natCast]
      show (s.toArray)[i]'(by simpa using hi') = s[i]
      simp
    refine bi_i (by omega) (by rw [tb_size]; omega) ?_
    rw [hch]
    have hgo : plainAt s i = true → ∃ v : MVars m42_3, [((14 : Tmp), Value.int .i64 (IntKind.i64.wrap (((i : Nat) : Int) + 1)))] = mvals m42_3 v ∧ ((w2 = w2 ∧ ∃ i : Nat, v.1 = (i : Nat) ∧ i ≤ s.length ∧ ∀ j, j < i → plainAt s j = true) ∧ s.length - v.1.toNat < s.length - ((i : Nat) : Int).toNat) := fun hp =>
      ⟨(((i : Nat) : Int) + 1, ()), by rw [wrap_succ (by omega) (by omega)]; rfl, ⟨rfl, i + 1, rfl, hi', fun j hj => by
        by_cases ej : j = i
        · rw [ej]; exact hp
        · exact hall j (by omega)⟩, by show s.length - (((i : Nat) : Int) + 1).toNat < _; omega⟩
    have hno : plainAt s i = false → Value.bool false = Value.bool (plainB s) := fun hp => by
      rw [hpl]
      congr 1
      symm
      rw [List.all_eq_false]
      exact ⟨i, List.mem_range.2 hi', by rw [hp]; decide⟩
    have hat : plainAt s i = (lowB s[i] || (decide (0 < i) && digB s[i])) := by unfold plainAt; rw [List.getElem?_eq_getElem hi']
    unfold lowB digB at hat
    generalize (s[i]).toNat = c at *
    have bad : plainAt s i = false → wpT Tryz.prog (fun r w' => r = .returned (.bool (plainB s)) ∧ w' = w2) (after Tryz.prog (fun r w' => r = .returned (.bool (plainB s)) ∧ w' = w2) (fun _ _ _ => False) m42_3 mx42_3 mr42_3 0 (fun u5 g5 => .done (.returned (.bool true))) (fun u6 g6 => .done (.returned (.bool u6.1))) (fun v' w' => (w' = w2 ∧ ∃ i : Nat, v'.1 = (i : Nat) ∧ i ≤ s.length ∧ ∀ j, j < i → plainAt s j = true) ∧ s.length - v'.1.toNat < s.length - ((i : Nat) : Int).toNat)) (.fin .ret [(2, .bool false)]) .pl w2 := fun hp =>
      ⟨(false, ()), rfl, fun g => ⟨congrArg Ending.returned (hno hp), rfl⟩⟩
    refine br_both (fun e1 => ?_) fun e1 => ?_
    · refine br_both (fun e2 => hgo ?_) fun e2 => br_both (fun e3 => br_both (fun e4 => br_both (fun e5 => bad ?_) fun e5 => hgo ?_) fun e4 => bad ?_) fun e3 => bad ?_
      all_goals (rw [hat]; simp only [Bool.not_eq_true', Bool.not_eq_false', decide_eq_true_eq, decide_eq_false_iff_not, Bool.or_eq_true, Bool.and_eq_true, Bool.or_eq_false_iff, Bool.and_eq_false_iff] at *; omega)
    · refine br_both (fun e3 => br_both (fun e4 => br_both (fun e5 => bad ?_) fun e5 => hgo ?_) fun e4 => bad ?_) fun e3 => bad ?_
      all_goals (rw [hat]; simp only [Bool.not_eq_true', Bool.not_eq_false', decide_eq_true_eq, decide_eq_false_iff_not, Bool.or_eq_true, Bool.and_eq_true, Bool.or_eq_false_iff, Bool.and_eq_false_iff] at *; omega)
  · have e := lt_f e
    obtain rfl : i = s.length := by omega
    refine ⟨rfl, (), rfl, fun g => ⟨?_, rfl⟩⟩
    rw [hpl]
    congr 2
    symm
    rw [List.all_eq_true]
    exact fun j hj => hall j (List.mem_range.1 hj)
theorem at_none {n : Nat} {bad : Nat → Bool} (h : ∀ i, i < n → bad i = false) : (-1 : Int) = atI (firstM n bad) := by rw [firstM_none h]; rfl
theorem at_some {n i : Nat} {bad : Nat → Bool} (hi : i < n) (hb : bad i = true) (h : ∀ j, j < i → bad j = false) : ((i : Nat) : Int) = atI (firstM n bad) := by rw [firstM_some hi hb h]; rfl
theorem nameAt_of {p : PM} {i : Nat} {t : TM} (h : p.tasks[i]? = some t) : nameAt p i = t.name := by unfold nameAt; rw [h]; rfl
theorem numAt_of {p : PM} {i : Nat} {t : TM} (h : p.tasks[i]? = some t) : numAt p i = t.num := by unfold numAt; rw [h]; rfl
theorem exprsAt_of {p : PM} {i : Nat} {t : TM} (h : p.tasks[i]? = some t) : exprsAt p i = t.exprs := by unfold exprsAt; rw [h]; rfl
/-- What a check's answer is. -/
def ChkR (w : World) (n : Nat) (bad : Nat → Bool) (r : Ending) (w' : World) : Prop := r = .returned (.int .i64 (atI (firstM n bad))) ∧ Ch No w w'
theorem badName_any (w : World) (p : PM) (tp ep : Option Addr) (tc ec : Nat) (h : IsP w tp ep p) : Calls Tryz.prog 31 #[planV p tp tc ep ec] w (ChkR w p.tasks.length (nameBad p)) := by
  refine calls_of_fnT mixed Tryz.func31 (s := s31) ?_
  rw [t31]
  refine nw (cs := planC p tp tc ep ec) fun w1 c1 s1 b1 => ld_sl (b1.cell 1) ?_
  refine loop_i mixed m31_3 s31_3 (by kernel_rfl) (by kernel_rfl) (fun v w2 => Told p.tasks.length (nameBad p) w1 v.1 w2) (fun v _ => p.tasks.length - v.1.toNat) (0, ()) rfl (Told.start _ _ _) ?_
  rintro ⟨_, ⟨⟩⟩ g w2 ⟨i, rfl, hi, c2, hall⟩
  rw [t31_3]
  dsimp only
  have htn := h.tn
  refine br_both (fun e => ?_) fun e => ?_
  · have e := lt_t e
    have hi' : i < p.tasks.length := by omega
    obtain ⟨t, ht⟩ := some_at hi'
    have h2 := (h.ch c1).ch c2
    refine tk_i h2 ht fun ta xp xc n w3 c3 hn b3 hx a3 => ?_
    have hfound : ∀ w', Ch No w3 w' → nameBad p i = true → ChkR w p.tasks.length (nameBad p) (.returned (.int .i64 ((i : Nat) : Int))) w' := fun w' hc hb =>
      ⟨by rw [at_some hi' hb hall], c1.trans (c2.trans (c3.trans hc))⟩
    refine ld_str (b3.cell 0) (cl_i (plain_any w3 t.name) ?_)
    rintro r w4 ⟨rfl, rfl⟩
    refine ⟨plainB t.name, rfl, ?_⟩
    refine br_both (fun e1 => ?_) fun e1 => ?_
    · refine ⟨((i : Nat), ()), rfl, fun g => hfound _ (Ch.refl _ _) ?_⟩
      unfold nameBad
      rw [nameAt_of ht, e1, Bool.true_or]
    refine loop_i mixed m31_12 s31_12 (by kernel_rfl) (by kernel_rfl) (fun v w5 => Ch No w4 w5 ∧ ∃ j : Nat, v.1 = (j : Nat) ∧ j ≤ i ∧ ∀ k, k < j → (nameAt p k == nameAt p i) = false) (fun v _ => i - v.1.toNat) (0, ()) rfl ⟨Ch.refl _ _, 0, rfl, Nat.zero_le _, fun k h => by omega⟩ ?_
    rintro ⟨_, ⟨⟩⟩ g w5 ⟨c5, j, rfl, hj, hne⟩
    rw [t31_12]
    refine br_both (fun e2 => ?_) fun e2 => ?_
    · have e2 := lt_t e2
      obtain ⟨u, hu⟩ := some_at (l := p.tasks) (i := j) (by omega)
      have h5 := (h2.ch c3).ch c5
      obtain ⟨ua, rfl, hun, -⟩ := h5.tasks j u hu
      have b1' := ((b1.ch c2 (fun h => h)).ch c3 (fun h => h)).ch c5 (fun h => h)
      have hjn : j < p.tasks.length := by omega
      refine dr_no (lc_sl (b1'.cell 1) (ix_i (by omega) (by show ((j : Nat) : Int) < (p.tasks.length : Int); omega) ?_))
      rw [Int.toNat_natCast]
      refine lc_str hun (lc_str ((b3.ch c5 (fun h => h)).cell 0) (un_no fun w6 c6 => ?_))
      rw [tb_list, tb_list]
      refine br_both (fun e3 => ?_) fun e3 => ?_
      · refine ⟨((i : Nat), ()), rfl, fun g => ⟨((i : Nat), ()), rfl, fun g => hfound _ (c5.trans c6) ?_⟩⟩
        unfold nameBad
        rw [Bool.or_eq_true]
        refine .inr (List.any_eq_true.2 ⟨j, List.mem_range.2 (by omega), ?_⟩)
        rw [nameAt_of ht, nameAt_of hu]
        exact e3
      · refine ⟨(((j : Nat) : Int) + 1, ()), by rw [wrap_succ (by omega) (by omega)]; rfl, ⟨c5.trans c6, j + 1, rfl, by omega, fun k hk => ?_⟩, by show i - (((j : Nat) : Int) + 1).toNat < _; omega⟩
        by_cases ek : k = j
        · rw [ek, nameAt_of ht, nameAt_of hu]
          exact e3
        · exact hne k (by omega)
    · have e2 := lt_f e2
      obtain rfl : j = i := by omega
      refine ⟨rfl, (), rfl, fun g => ⟨(_, ()), rfl, Told.step hi' (by omega) c2 hall (c3.trans c5) ?_, Told.less hi' (by omega)⟩⟩
      unfold nameBad
      rw [nameAt_of ht, Bool.or_eq_false_iff]
      refine ⟨e1, List.any_eq_false.2 fun k hk => ?_⟩
      have := hne k (List.mem_range.1 hk)
      rw [nameAt_of ht] at this
      rw [this]
      decide
  · have e := lt_f e
    obtain rfl : i = p.tasks.length := by omega
    exact ⟨rfl, (), rfl, fun g => ⟨by rw [at_none hall], c1.trans c2⟩⟩
theorem badKind_any (w : World) (p : PM) (tp ep : Option Addr) (tc ec : Nat) (h : IsP w tp ep p) (hG : GlS w) : Calls Tryz.prog 32 #[planV p tp tc ep ec] w (ChkR w p.tasks.length (kindBad p)) := by
  refine calls_of_fnT mixed Tryz.func32 (s := s32) ?_
  rw [t32]
  refine nw (cs := planC p tp tc ep ec) fun w1 c1 s1 b1 => ld_sl (b1.cell 1) ?_
  refine loop_i mixed m32_3 s32_3 (by kernel_rfl) (by kernel_rfl) (fun v w2 => Told p.tasks.length (kindBad p) w1 v.1 w2) (fun v _ => p.tasks.length - v.1.toNat) (0, ()) rfl (Told.start _ _ _) ?_
  rintro ⟨_, ⟨⟩⟩ g w2 ⟨i, rfl, hi, c2, hall⟩
  rw [t32_3]
  dsimp only
  have htn := h.tn
  refine br_both (fun e => ?_) fun e => ?_
  · have e := lt_t e
    have hi' : i < p.tasks.length := by omega
    obtain ⟨t, ht⟩ := some_at hi'
    refine tk_i ((h.ch c1).ch c2) ht fun ta xp xc n w3 c3 hn b3 hx a3 => ?_
    have hfound : ∀ w', Ch No w3 w' → kindBad p i = true → ChkR w p.tasks.length (kindBad p) (.returned (.int .i64 ((i : Nat) : Int))) w' := fun w' hc hb =>
      ⟨by rw [at_some hi' hb hall], c1.trans (c2.trans (c3.trans hc))⟩
    have hbad : kindBad p i = (!knownB t.kind || decide (t.num < needOf t.kind 4) || decide (t.num > needOf t.kind 5)) := by unfold kindBad; rw [kindAt_of ht, numAt_of ht]
    have hG3 := hG.no (c1.trans (c2.trans c3))
    refine dr_no (lc_int (b3.cell 1) (cc_i (x := knownB t.kind) (fun w4 c4 => (known_any w4 t.kind).mono fun r w' ⟨h1, h2⟩ => ⟨h1, h2 ▸ Ch.refl _ _⟩) ?_))
    refine br_both (fun e1 => un_no fun w4 c4 => ⟨((i : Nat), ()), rfl, fun g => hfound _ c4 (by rw [hbad, e1, Bool.true_or, Bool.true_or])⟩) fun e1 => ?_
    have hk : 1 ≤ t.kind ∧ t.kind ≤ 13 := by
      unfold knownB at e1
      simpa using e1
    refine lc_int (b3.cell 2) (lc_int (b3.cell 1) (ix_i (by omega) (by omega) (lc_int (hG3.nd hk.1 hk.2 (by omega)) ?_)))
    refine br_both (fun e2 => un_no fun w4 c4 => ⟨((i : Nat), ()), rfl, fun g => hfound _ c4 (by rw [hbad, e2, Bool.or_true, Bool.true_or])⟩) fun e2 => ?_
    refine lc_int (b3.cell 2) (lc_int (b3.cell 1) (ix_i (by omega) (by omega) (lc_int (hG3.nd hk.1 hk.2 (by omega)) (un_no fun w4 c4 => ?_))))
    refine br_both (fun e3 => ⟨((i : Nat), ()), rfl, fun g => hfound _ c4 (by rw [hbad, e3, Bool.or_true])⟩) fun e3 => ?_
    exact ⟨(_, ()), rfl, Told.step hi' (by omega) c2 hall (c3.trans c4) (by rw [hbad, e1, e2, e3]; rfl), Told.less hi' (by omega)⟩
  · have e := lt_f e
    obtain rfl : i = p.tasks.length := by omega
    exact ⟨rfl, (), rfl, fun g => ⟨by rw [at_none hall], c1.trans c2⟩⟩
theorem badExpr_any (w : World) (p : PM) (tp ep : Option Addr) (tc ec : Nat) (h : IsP w tp ep p) (hG : GlS w) (hk : ∀ t ∈ p.tasks, 1 ≤ t.kind ∧ t.kind ≤ 13) : Calls Tryz.prog 33 #[planV p tp tc ep ec] w (ChkR w p.tasks.length (exprBad p)) := by
  refine calls_of_fnT mixed Tryz.func33 (s := s33) ?_
  rw [t33]
  refine nw (cs := planC p tp tc ep ec) fun w1 c1 s1 b1 => ld_sl (b1.cell 1) ?_
  refine loop_i mixed m33_3 s33_3 (by kernel_rfl) (by kernel_rfl) (fun v w2 => Told p.tasks.length (exprBad p) w1 v.1 w2) (fun v _ => p.tasks.length - v.1.toNat) (0, ()) rfl (Told.start _ _ _) ?_
  rintro ⟨_, ⟨⟩⟩ g w2 ⟨i, rfl, hi, c2, hall⟩
  rw [t33_3]
  dsimp only
  have htn := h.tn
  refine br_both (fun e => ?_) fun e => ?_
  · have e := lt_t e
    have hi' : i < p.tasks.length := by omega
    obtain ⟨t, ht⟩ := some_at hi'
    obtain ⟨k0, k1⟩ := hk t (List.mem_of_getElem? ht)
    refine tk_i ((h.ch c1).ch c2) ht fun ta xp xc n w3 c3 hn b3 hx a3 => ?_
    have hfound : ∀ w', Ch No w3 w' → exprBad p i = true → ChkR w p.tasks.length (exprBad p) (.returned (.int .i64 ((i : Nat) : Int))) w' := fun w' hc hb =>
      ⟨by rw [at_some hi' hb hall], c1.trans (c2.trans (c3.trans hc))⟩
    have hbad : exprBad p i = (decide ((t.exprs.length : Int) ≠ needOf t.kind 6) || t.exprs.any fun x => !checkB x) := by unfold exprBad; rw [kindAt_of ht, exprsAt_of ht]
    have hG3 := hG.no (c1.trans (c2.trans c3))
    refine dr_no (lc_sl (b3.cell 3) (lc_int (b3.cell 1) (ix_i (by omega) (by omega) (lc_int (hG3.nd k0 k1 (by omega)) (un_no fun w4 c4 => ?_)))))
    refine br_both (fun e1 => ⟨((i : Nat), ()), rfl, fun g => hfound _ c4 (by rw [hbad, decide_eq_true (ne_t e1), Bool.true_or])⟩) fun e1 => ?_
    have e1 := ne_f e1
    refine ld_sl ((b3.ch c4 (fun h => h)).cell 3) ?_
    refine loop_i mixed m33_15 s33_15 (by kernel_rfl) (by kernel_rfl) (fun v w5 => Ch No w4 w5 ∧ ∃ j : Nat, v.1 = (j : Nat) ∧ j ≤ t.exprs.length ∧ ∀ x ∈ t.exprs.take j, checkB x = true) (fun v _ => t.exprs.length - v.1.toNat) (0, ()) rfl ⟨Ch.refl _ _, 0, rfl, Nat.zero_le _, fun x h => (by cases h)⟩ ?_
    rintro ⟨_, ⟨⟩⟩ g w5 ⟨c5, j, rfl, hj, hok⟩
    rw [t33_15]
    dsimp only
    refine br_both (fun e2 => ?_) fun e2 => ?_
    · have e2 := lt_t e2
      obtain ⟨x, hx'⟩ := some_at (l := t.exprs) (i := j) (by omega)
      obtain ⟨xa, rfl, hxa⟩ := a3 j x hx'
      refine ix_i (by omega) (by omega) ?_
      rw [Int.toNat_natCast, Nat.mul_one]
      refine ld_str ((c4.trans c5).cellv hxa (fun h => h)) (cl_i (E.check_any w5 (bytesL x) ((hG3.no c4).no c5).expr) ?_)
      rintro r w6 ⟨c6, hr⟩
      rw [tb_data] at hr
      cases hp : E.parseE x with
      | error c =>
        rw [hp] at hr
        obtain ⟨v, rfl, hv⟩ := hr
        refine ⟨v, rfl, ne_err hv (br_true rfl ⟨((i : Nat), ()), rfl, fun g => ⟨((i : Nat), ()), rfl, fun g => hfound _ (c4.trans (c5.trans c6)) ?_⟩⟩)⟩
        rw [hbad, Bool.or_eq_true]
        refine .inr (List.any_eq_true.2 ⟨x, List.mem_of_getElem? hx', ?_⟩)
        unfold checkB
        rw [hp]
        rfl
      | ok y =>
        rw [hp] at hr
        subst hr
        refine ⟨.nilIface, rfl, ne_nil (br_false rfl ⟨(((j : Nat) : Int) + 1, ()), by rw [wrap_succ (by omega) (by omega)]; rfl, ⟨c5.trans c6, j + 1, rfl, by omega, fun z hz => ?_⟩, by show t.exprs.length - (((j : Nat) : Int) + 1).toNat < _; omega⟩)⟩
        rw [List.take_add_one, hx'] at hz
        rcases List.mem_append.1 hz with hz | hz
        · exact hok z hz
        · have hz : z = x := by simpa using hz
          subst hz
          unfold checkB
          rw [hp]
    · have e2 := lt_f e2
      obtain rfl : j = t.exprs.length := by omega
      refine ⟨rfl, (), rfl, fun g => ⟨(_, ()), rfl, Told.step hi' (by omega) c2 hall (c3.trans (c4.trans c5)) ?_, Told.less hi' (by omega)⟩⟩
      rw [hbad, decide_eq_false (fun hh => hh e1), Bool.false_or]
      refine List.any_eq_false.2 fun x hxm => ?_
      rw [List.take_length] at hok
      rw [hok x hxm]
      decide
  · have e := lt_f e
    obtain rfl : i = p.tasks.length := by omega
    exact ⟨rfl, (), rfl, fun g => ⟨by rw [at_none hall], c1.trans c2⟩⟩
theorem badEdge_any (w : World) (p : PM) (tp ep : Option Addr) (tc ec : Nat) (h : IsP w tp ep p) : Calls Tryz.prog 34 #[planV p tp tc ep ec] w (ChkR w p.edges.length (edgeBad p)) := by
  refine calls_of_fnT mixed Tryz.func34 (s := s34) ?_
  rw [t34]
  refine nw (cs := planC p tp tc ep ec) fun w1 c1 s1 b1 => ld_sl (b1.cell 1) (ld_sl (b1.cell 2) ?_)
  refine loop_i mixed m34_4 s34_4 (by kernel_rfl) (by kernel_rfl) (fun v w2 => Told p.edges.length (edgeBad p) w1 v.1 w2) (fun v _ => p.edges.length - v.1.toNat) (0, ()) rfl (Told.start _ _ _) ?_
  rintro ⟨_, ⟨⟩⟩ g w2 ⟨i, rfl, hi, c2, hall⟩
  rw [t34_4]
  dsimp only
  have hen := h.en
  refine br_both (fun e => ?_) fun e => ?_
  · have e := lt_t e
    have hi' : i < p.edges.length := by omega
    obtain ⟨t, ht⟩ := some_at hi'
    refine ed_i ((h.ch c1).ch c2) ht fun ea n w3 c3 hn b3 => ?_
    have hfound : edgeBad p i = true → ChkR w p.edges.length (edgeBad p) (.returned (.int .i64 ((i : Nat) : Int))) w3 := fun hb =>
      ⟨by rw [at_some hi' hb hall], c1.trans (c2.trans c3)⟩
    have hbad : edgeBad p i = (decide (t.frm < 0) || decide (t.frm ≥ p.tasks.length) || decide (t.to < 0) || decide (t.to ≥ p.tasks.length) || decide (t.out < 0) || decide (t.out ≥ 4) || decide (t.inn < 0) || decide (t.inn ≥ 4)) := by unfold edgeBad; rw [ht]
    refine ld_int (b3.cell 0) (br_both (fun e1 => ⟨((i : Nat), ()), rfl, fun g => hfound (by rw [hbad, e1]; rfl)⟩) fun e1 => ?_)
    refine ld_int (b3.cell 0) (br_both (fun e2 => ⟨((i : Nat), ()), rfl, fun g => hfound (by rw [hbad, e1, e2]; rfl)⟩) fun e2 => ?_)
    refine ld_int (b3.cell 2) (br_both (fun e3 => ⟨((i : Nat), ()), rfl, fun g => hfound (by rw [hbad, e1, e2, e3]; rfl)⟩) fun e3 => ?_)
    refine ld_int (b3.cell 2) (br_both (fun e4 => ⟨((i : Nat), ()), rfl, fun g => hfound (by rw [hbad, e1, e2, e3, e4]; rfl)⟩) fun e4 => ?_)
    refine ld_int (b3.cell 1) (br_both (fun e5 => ⟨((i : Nat), ()), rfl, fun g => hfound (by rw [hbad, e1, e2, e3, e4, e5]; rfl)⟩) fun e5 => ?_)
    refine ld_int (b3.cell 1) (br_both (fun e6 => ⟨((i : Nat), ()), rfl, fun g => hfound (by rw [hbad, e1, e2, e3, e4, e5, e6]; rfl)⟩) fun e6 => ?_)
    refine ld_int (b3.cell 3) (br_both (fun e7 => ⟨((i : Nat), ()), rfl, fun g => hfound (by rw [hbad, e1, e2, e3, e4, e5, e6, e7]; rfl)⟩) fun e7 => ?_)
    refine ld_int (b3.cell 3) (br_both (fun e8 => ⟨((i : Nat), ()), rfl, fun g => hfound (by rw [hbad, e1, e2, e3, e4, e5, e6, e7, e8]; rfl)⟩) fun e8 => ?_)
    exact ⟨(_, ()), rfl, Told.step hi' (by omega) c2 hall c3 (by rw [hbad, e1, e2, e3, e4, e5, e6, e7, e8]; rfl), Told.less hi' (by omega)⟩
  · have e := lt_f e
    obtain rfl : i = p.edges.length := by omega
    exact ⟨rfl, (), rfl, fun g => ⟨by rw [at_none hall], c1.trans c2⟩⟩
end Go.Proofs.YtkebljkdkaagfaaGreatDoor.S
