/- ShapeOrder's walk: always true. -/
import Derived.Test.YtkebljkdkaagfaaGreatDoorShp
namespace Go.Proofs.YtkebljkdkaagfaaGreatDoor.S
open Go Tr
set_option maxRecDepth 100000
set_option maxHeartbeats 8000000
/-! the tree of function 3 -/
abbrev fx3_9 (r6 : ((Option Addr × Nat × Nat) × (Option Addr × Nat × Nat) × (Option Addr × Nat × Nat) × (Option Addr × Nat × Nat) × (Option Addr × Nat × Nat) × (Option Addr × Nat × Nat) × (Option Addr × Nat × Nat) × (Option Addr × Nat × Nat) × Unit) × Int × Int × Unit) (n7 : Nat) : List (Tmp × Value) := [(3, .pointer (some ⟨n7, 0, none⟩)), (4, .int .i64 r6.2.1)]
abbrev mx3_9 : List (Tmp × Comp) := [(2, .leaf .bool)]
def s3_9 : Script := .sym (.ld .sl (.ld .sl (.ld .sl (.ld .sl (.ld .sl (.ld .sl (.ld .sl (.ld .sl (.lit (.lit (.cl (.one (.leaf .bool)) (.lit .nil)))))))))))) (.lit (.lit (.lit .nil)))
theorem t3_9 (r6 : ((Option Addr × Nat × Nat) × (Option Addr × Nat × Nat) × (Option Addr × Nat × Nat) × (Option Addr × Nat × Nat) × (Option Addr × Nat × Nat) × (Option Addr × Nat × Nat) × (Option Addr × Nat × Nat) × (Option Addr × Nat × Nat) × Unit) × Int × Int × Unit) (n7 : Nat) (gg9 : Nat → Value) : pieceT Tryz.prog (at_ Tryz.f3 [1, 1, 1, 0, 1, 0, 0]) 149 (fx3_9 r6 n7) gg9 (mx3_9.map (·.1)) [] [] s3_9 = .br (Decidable.decide (r6.snd.fst ≥ 0)) (.load ⟨n7, 0, none⟩ .sl (fun l10 => .load ⟨n7, 1, none⟩ .sl (fun l11 => .load ⟨n7, 2, none⟩ .sl (fun l12 => .load ⟨n7, 3, none⟩ .sl (fun l13 => .load ⟨n7, 4, none⟩ .sl (fun l14 => .load ⟨n7, 5, none⟩ .sl (fun l15 => .load ⟨n7, 6, none⟩ .sl (fun l16 => .load ⟨n7, 7, none⟩ .sl (fun l17 => .call 11 #[.agg #[.slice l10.1 l10.2.1 l10.2.2, .slice l11.1 l11.2.1 l11.2.2, .slice l12.1 l12.2.1 l12.2.2, .slice l13.1 l13.2.1 l13.2.2, .slice l14.1 l14.2.1 l14.2.2, .slice l15.1 l15.2.1 l15.2.2, .slice l16.1 l16.2.1 l16.2.2, .slice l17.1 l17.2.1 l17.2.2], .agg #[.slice none 0 0, .slice none 0 0, .slice none 0 0, .slice none 0 0, .slice none 0 0, .slice none 0 0, .slice none 0 0, .slice none 0 0]] (.one (.leaf .bool)) (fun b18 => .fin .normal [(2, .bool b18)])))))))))) (.fin .normal [(2, .bool false)]) := by kernel_rfl
abbrev fx3_20 (n1 : Nat) (n7 : Nat) : List (Tmp × Value) := [(1, .pointer (some ⟨n1, 0, none⟩)), (3, .pointer (some ⟨n7, 0, none⟩))]
abbrev mx3_20 : List (Tmp × Comp) := [(44, .leaf .bool)]
def s3_20 : Script := .ld (.int .i64) (.ld .sl (.ld .sl (.ld .sl (.ld .sl (.ld .sl (.ld .sl (.ld .sl (.ld .sl (.ld .sl (.ld .sl (.cl (.one (.leaf .bool)) (.sym (.lit (.lit (.lit (.lit (.lit (.lit (.lit (.lit (.lit .nil))))))))) (.lit (.ld .sl (.lit (.lit (.lit (.sym (.lit (.lit (.lit (.lit .nil)))) (.lit (.ld .sl (.lit (.lit (.lit .nil)))))))))))))))))))))))
theorem t3_20 (n1 : Nat) (n7 : Nat) (gg20 : Nat → Value) : pieceT Tryz.prog (at_ Tryz.f3 [1, 1, 1, 1, 0, 0]) 149 (fx3_20 n1 n7) gg20 (mx3_20.map (·.1)) [] [] s3_20 = .load ⟨n1, 0, none⟩ (.int .i64) (fun x21 => .load ⟨n1, 1, none⟩ .sl (fun l22 => .load ⟨n1, 2, none⟩ .sl (fun l23 => .load ⟨n7, 0, none⟩ .sl (fun l24 => .load ⟨n7, 1, none⟩ .sl (fun l25 => .load ⟨n7, 2, none⟩ .sl (fun l26 => .load ⟨n7, 3, none⟩ .sl (fun l27 => .load ⟨n7, 4, none⟩ .sl (fun l28 => .load ⟨n7, 5, none⟩ .sl (fun l29 => .load ⟨n7, 6, none⟩ .sl (fun l30 => .load ⟨n7, 7, none⟩ .sl (fun l31 => .call 12 #[.agg #[.int .i64 x21, .slice l22.1 l22.2.1 l22.2.2, .slice l23.1 l23.2.1 l23.2.2], .agg #[.slice l24.1 l24.2.1 l24.2.2, .slice l25.1 l25.2.1 l25.2.2, .slice l26.1 l26.2.1 l26.2.2, .slice l27.1 l27.2.1 l27.2.2, .slice l28.1 l28.2.1 l28.2.2, .slice l29.1 l29.2.1 l29.2.2, .slice l30.1 l30.2.1 l30.2.2, .slice l31.1 l31.2.1 l31.2.2]] (.one (.leaf .bool)) (fun b32 => .br (!b32) (.fin .normal [(44, .bool true)]) (.load ⟨n7, 4, none⟩ .sl (fun l33 => .br (Decidable.decide ((↑l33.snd.fst : Int) < 1)) (.fin .normal [(44, .bool true)]) (.load ⟨n7, 5, none⟩ .sl (fun l34 => .fin .normal [(44, .bool (Decidable.decide ((↑l34.snd.fst : Int) < 1)))])))))))))))))))) := by kernel_rfl
abbrev fx3_38 (n1 : Nat) (n7 : Nat) (g35 : Nat → Value) (l37 : Option Addr × Nat × Nat) : List (Tmp × Value) := [(1, .pointer (some ⟨n1, 0, none⟩)), (2, g35 2), (3, .pointer (some ⟨n7, 0, none⟩)), (6, .slice l37.1 l37.2.1 l37.2.2)]
abbrev m3_38 : List (Tmp × Comp) := [(7, .leaf (.int .i64))]
abbrev mx3_38 : List (Tmp × Comp) := []
abbrev mr3_38 : List (Tmp × Comp) := []
def s3_38 : Script := .ld .sl (.sym (.hd0 (.hq 0 (.hq 1 (.hq 2 (.ld .sl (.hq 3 (.hq 4 (.ix (.hq 5 (.ld (.int .i64) (.hq 6 (.hq 7 (.hq 8 (.ld .sl (.hq 9 (.hq 10 (.ix (.hq 11 (.ld (.int .i64) (.hq 12 (.ix (.hq 14 (.he 13 (.ld (.int .i64) (.hq 15 (.hq 16 (.hq 17 (.ix (.he 18 .nil))))))))))))))))))))))))))))) .nil)
theorem t3_38 (n1 : Nat) (n7 : Nat) (g35 : Nat → Value) (l37 : Option Addr × Nat × Nat) (x_7 : Int) (gg38 : Nat → Value) : pieceT Tryz.prog (at_ Tryz.f3 [1, 1, 1, 1, 1, 1, 0, 1, 0, 0]) 149 (fx3_38 n1 n7 g35 l37 ++ mvals m3_38 (x_7, ())) gg38 (m3_38.map (·.1)) (mx3_38.map (·.1)) (mr3_38.map (·.1)) s3_38 = .load ⟨n7, 3, none⟩ .sl (fun l39 => .br (Decidable.decide (x_7 < (↑l39.snd.fst : Int))) (.hdrawn (.load ⟨n7, 3, none⟩ .sl (fun l40 => .idx l40.1 x_7 l40.2.1 1 (fun a41 => .load a41 (.int .i64) (fun x42 => .load ⟨n7, 3, none⟩ .sl (fun l43 => .idx l43.1 x_7 l43.2.1 1 (fun a44 => .load a44 (.int .i64) (fun x45 => .idx l37.1 x45 l37.2.1 1 (fun a46 => .eff (.load a46 (.int .i64) (fun x47 => .back (.idx l37.1 x42 l37.2.1 1 (fun a48 => .eff (.store a48 (.int .i64 (IntKind.i64.wrap (IntKind.i64.wrap (x47 + x_7) + 1))) (.back (.undrawn (.fin .normal [(7, .int .i64 (IntKind.i64.wrap (x_7 + 1)))]))))))))))))))))) (.fin (.exit 0) [])) := by kernel_rfl
abbrev fx3_50 (n1 : Nat) (n7 : Nat) (l37 : Option Addr × Nat × Nat) : List (Tmp × Value) := [(1, .pointer (some ⟨n1, 0, none⟩)), (3, .pointer (some ⟨n7, 0, none⟩)), (6, .slice l37.1 l37.2.1 l37.2.2)]
abbrev m3_50 : List (Tmp × Comp) := [(8, .leaf (.int .i64))]
abbrev mx3_50 : List (Tmp × Comp) := []
abbrev mr3_50 : List (Tmp × Comp) := [(2, .leaf .bool)]
abbrev fx3_51 (n1 : Nat) (n7 : Nat) (l37 : Option Addr × Nat × Nat) (x_8 : Int) : List (Tmp × Value) := [(1, .pointer (some ⟨n1, 0, none⟩)), (3, .pointer (some ⟨n7, 0, none⟩)), (6, .slice l37.1 l37.2.1 l37.2.2), (8, .int .i64 x_8)]
abbrev mx3_51 : List (Tmp × Comp) := [(106, .leaf .bool)]
def s3_51 : Script := .qt (.ix (.ld (.int .i64) (.sym (.lit (.lit (.lit (.lit (.lit (.lit (.lit (.lit (.lit (.lit (.lit (.lit (.lit (.lit (.lit (.lit (.lit (.lit (.lit .nil))))))))))))))))))) (.lit (.lit (.ix (.lit (.ld (.int .i64) (.lit (.lit (.lit (.lit (.sym (.lit (.lit (.lit (.lit (.lit (.lit (.lit (.lit (.lit (.lit (.lit .nil))))))))))) (.lit (.ld .sl (.lit (.lit (.lit (.ix (.lit (.ld (.int .i64) (.lit (.lit (.ix (.lit (.ld (.int .i64) (.lit (.lit (.lit .nil)))))))))))))))))))))))))))))
theorem t3_51 (n1 : Nat) (n7 : Nat) (l37 : Option Addr × Nat × Nat) (x_8 : Int) (gg51 : Nat → Value) : pieceT Tryz.prog (at_ Tryz.f3 [1, 1, 1, 1, 1, 1, 1, 0, 1, 0, 0, 1, 0, 0, 0]) 149 (fx3_51 n1 n7 l37 x_8) gg51 (mx3_51.map (·.1)) [] [] s3_51 = .drawn (.idx l37.1 x_8 l37.2.1 1 (fun a52 => .load a52 (.int .i64) (fun x53 => .br (Decidable.decide (x53 < 1)) (.undrawn (.fin .normal [(106, .bool true)])) (.idx l37.1 x_8 l37.2.1 1 (fun a54 => .load a54 (.int .i64) (fun x55 => .br (Decidable.decide (x55 > (↑l37.snd.fst : Int))) (.undrawn (.fin .normal [(106, .bool true)])) (.load ⟨n7, 3, none⟩ .sl (fun l56 => .idx l37.1 x_8 l37.2.1 1 (fun a57 => .load a57 (.int .i64) (fun x58 => .idx l56.1 (IntKind.i64.wrap (x58 - 1)) l56.2.1 1 (fun a59 => .load a59 (.int .i64) (fun x60 => .undrawn (.fin .normal [(106, .bool (x60 != x_8))]))))))))))))) := by kernel_rfl
def s3_50 : Script := .sym (.ct 1 [1, 3, 6, 8] mx3_51 (.sym .nil .nil)) .nil
theorem t3_50 (n1 : Nat) (n7 : Nat) (l37 : Option Addr × Nat × Nat) (x_8 : Int) (gg50 : Nat → Value) : pieceT Tryz.prog (at_ Tryz.f3 [1, 1, 1, 1, 1, 1, 1, 0, 1, 0, 0]) 149 (fx3_50 n1 n7 l37 ++ mvals m3_50 (x_8, ())) gg50 (m3_50.map (·.1)) (mx3_50.map (·.1)) (mr3_50.map (·.1)) s3_50 = .br (Decidable.decide (x_8 < (↑l37.snd.fst : Int))) (.cut (at_ Tryz.f3 [1, 1, 1, 1, 1, 1, 1, 0, 1, 0, 0, 1, 0, 0, 0]) 149 (fx3_51 n1 n7 l37 x_8) mx3_51 (fun u61 g61 => .br u61.1 (.fin .ret [(2, .bool false)]) (.fin .normal [(8, .int .i64 (IntKind.i64.wrap (x_8 + 1)))]))) (.fin (.exit 2) []) := by kernel_rfl
abbrev fx3_63 (n1 : Nat) (n7 : Nat) (l37 : Option Addr × Nat × Nat) : List (Tmp × Value) := [(1, .pointer (some ⟨n1, 0, none⟩)), (3, .pointer (some ⟨n7, 0, none⟩)), (6, .slice l37.1 l37.2.1 l37.2.2)]
abbrev m3_63 : List (Tmp × Comp) := [(9, .leaf (.int .i64))]
abbrev mx3_63 : List (Tmp × Comp) := []
abbrev mr3_63 : List (Tmp × Comp) := [(2, .leaf .bool)]
abbrev fx3_72 (n1 : Nat) (n7 : Nat) (l37 : Option Addr × Nat × Nat) (x_9 : Int) (n71 : Nat) : List (Tmp × Value) := [(1, .pointer (some ⟨n1, 0, none⟩)), (3, .pointer (some ⟨n7, 0, none⟩)), (6, .slice l37.1 l37.2.1 l37.2.2), (9, .int .i64 x_9), (10, .pointer (some ⟨n71, 0, none⟩))]
abbrev mx3_72 : List (Tmp × Comp) := [(148, .leaf .bool)]
def s3_72 : Script := .qt (.ld .sl (.ix (.ld .bool (.ld (.int .i64) (.ld .sl (.ld .sl (.ld (.int .i64) (.ld (.int .i64) (.ld (.int .i64) (.ld (.int .i64) (.cl (.one (.leaf .bool)) (.sym (.lit (.lit (.lit (.lit (.lit (.lit (.lit (.lit .nil)))))))) (.lit (.ld .sl (.lit (.lit (.ix (.lit (.ld .bool (.lit (.lit (.sym (.lit (.lit (.ld (.int .i64) (.lit (.ix (.lit (.ld (.int .i64) (.lit (.lit (.lit (.ld (.int .i64) (.lit (.ix (.lit (.ld (.int .i64) (.lit (.lit (.lit (.lit .nil))))))))))))))))))) (.lit (.lit (.lit (.lit (.lit (.lit (.lit (.lit (.lit (.lit (.lit (.lit (.lit .nil)))))))))))))))))))))))))))))))))))
theorem t3_72 (n1 : Nat) (n7 : Nat) (l37 : Option Addr × Nat × Nat) (x_9 : Int) (n71 : Nat) (gg72 : Nat → Value) : pieceT Tryz.prog (at_ Tryz.f3 [1, 1, 1, 1, 1, 1, 1, 1, 0, 1, 0, 0, 1, 0, 0, 1, 0]) 149 (fx3_72 n1 n7 l37 x_9 n71) gg72 (mx3_72.map (·.1)) [] [] s3_72 = .drawn (.load ⟨n7, 2, none⟩ .sl (fun l73 => .idx l73.1 x_9 l73.2.1 1 (fun a74 => .load a74 .bool (fun b75 => .load ⟨n1, 0, none⟩ (.int .i64) (fun x76 => .load ⟨n1, 1, none⟩ .sl (fun l77 => .load ⟨n1, 2, none⟩ .sl (fun l78 => .load ⟨n71, 0, none⟩ (.int .i64) (fun x79 => .load ⟨n71, 1, none⟩ (.int .i64) (fun x80 => .load ⟨n71, 2, none⟩ (.int .i64) (fun x81 => .load ⟨n71, 3, none⟩ (.int .i64) (fun x82 => .call 13 #[.agg #[.int .i64 x76, .slice l77.1 l77.2.1 l77.2.2, .slice l78.1 l78.2.1 l78.2.2], .agg #[.int .i64 x79, .int .i64 x80, .int .i64 x81, .int .i64 x82]] (.one (.leaf .bool)) (fun b83 => .br (!b75 == b83) (.undrawn (.fin .normal [(148, .bool true)])) (.load ⟨n7, 2, none⟩ .sl (fun l84 => .idx l84.1 x_9 l84.2.1 1 (fun a85 => .load a85 .bool (fun b86 => .br (!b86) (.load ⟨n71, 0, none⟩ (.int .i64) (fun x87 => .idx l37.1 x87 l37.2.1 1 (fun a88 => .load a88 (.int .i64) (fun x89 => .load ⟨n71, 2, none⟩ (.int .i64) (fun x90 => .idx l37.1 x90 l37.2.1 1 (fun a91 => .load a91 (.int .i64) (fun x92 => .undrawn (.fin .normal [(148, .bool (Decidable.decide (x89 ≥ x92)))])))))))) (.undrawn (.fin .normal [(148, .bool false)])))))))))))))))))) := by kernel_rfl
def s3_63 : Script := .ld .sl (.sym (.ld .sl (.ix (.ld (.int .i64) (.ld (.int .i64) (.ld (.int .i64) (.ld (.int .i64) (.ct 0 [1, 3, 6, 9, 10] mx3_72 (.sym .nil .nil)))))))) .nil)
theorem t3_63 (n1 : Nat) (n7 : Nat) (l37 : Option Addr × Nat × Nat) (x_9 : Int) (gg63 : Nat → Value) : pieceT Tryz.prog (at_ Tryz.f3 [1, 1, 1, 1, 1, 1, 1, 1, 0, 1, 0, 0]) 149 (fx3_63 n1 n7 l37 ++ mvals m3_63 (x_9, ())) gg63 (m3_63.map (·.1)) (mx3_63.map (·.1)) (mr3_63.map (·.1)) s3_63 = .load ⟨n1, 2, none⟩ .sl (fun l64 => .br (Decidable.decide (x_9 < (↑l64.snd.fst : Int))) (.load ⟨n1, 2, none⟩ .sl (fun l65 => .idx l65.1 x_9 l65.2.1 4 (fun a66 => .load a66 (.int .i64) (fun x67 => .load (a66.add 1) (.int .i64) (fun x68 => .load (a66.add 2) (.int .i64) (fun x69 => .load (a66.add 3) (.int .i64) (fun x70 => .new (.cells #[.int .i64 0, .int .i64 0, .int .i64 0, .int .i64 0] 39 (0, 0)) (fun n71 => .store ⟨n71, 0, none⟩ (.int .i64 x67) (.store ⟨n71, 1, none⟩ (.int .i64 x68) (.store ⟨n71, 2, none⟩ (.int .i64 x69) (.store ⟨n71, 3, none⟩ (.int .i64 x70) (.cut (at_ Tryz.f3 [1, 1, 1, 1, 1, 1, 1, 1, 0, 1, 0, 0, 1, 0, 0, 1, 0]) 149 (fx3_72 n1 n7 l37 x_9 n71) mx3_72 (fun u93 g93 => .br u93.1 (.fin .ret [(2, .bool false)]) (.fin .normal [(9, .int .i64 (IntKind.i64.wrap (x_9 + 1)))])))))))))))))) (.fin (.exit 4) [])) := by kernel_rfl
def s3 : Script := .cl (.one (.leaf .bool)) (.sym .nil (.ld (.int .i64) (.ld .sl (.ld .sl (.cl (.tup [.agg [.sl, .sl, .sl, .sl, .sl, .sl, .sl, .sl], .leaf (.int .i64), .leaf (.int .i64)]) (.cl (.one (.leaf (.int .i64))) (.sym (.ct 0 [3, 4] mx3_9 .nil) (.ct 1 [1, 3] mx3_20 (.sym .nil (.ld .sl (.nop (.rn (.one (.leaf .sl)) (.lp 0 [1, 2, 3, 6] [7] mx3_38 mr3_38 (.lp 2 [1, 3, 6] [8] mx3_50 mr3_50 (.lp 4 [1, 3, 6] [9] mx3_63 mr3_63 .nil .nil) .nil) .nil)))))))))))))
theorem t3 (qx0_0 : Int) (qa0_1 : Option Addr) (qn0_1 : Nat) (qc0_1 : Nat) (qa0_2 : Option Addr) (qn0_2 : Nat) (qc0_2 : Nat) : fnT Tryz.prog Tryz.f3 #[.agg #[.int .i64 qx0_0, .slice qa0_1 qn0_1 qc0_1, .slice qa0_2 qn0_2 qc0_2]] s3 = .new (.cells #[.int .i64 qx0_0, .slice qa0_1 qn0_1 qc0_1, .slice qa0_2 qn0_2 qc0_2] 25 (0, 0)) (fun n1 => .call 8 #[] (.one (.leaf .bool)) (fun b2 => .br (!b2) (.done (.returned (.bool false))) (.load ⟨n1, 0, none⟩ (.int .i64) (fun x3 => .load ⟨n1, 1, none⟩ .sl (fun l4 => .load ⟨n1, 2, none⟩ .sl (fun l5 => .call 9 #[.agg #[.int .i64 x3, .slice l4.1 l4.2.1 l4.2.2, .slice l5.1 l5.2.1 l5.2.2]] (.tup [.agg [.sl, .sl, .sl, .sl, .sl, .sl, .sl, .sl], .leaf (.int .i64), .leaf (.int .i64)]) (fun r6 => .new (.cells #[.slice none 0 0, .slice none 0 0, .slice none 0 0, .slice none 0 0, .slice none 0 0, .slice none 0 0, .slice none 0 0, .slice none 0 0] 31 (0, 0)) (fun n7 => .store ⟨n7, 0, none⟩ (.slice r6.1.1.1 r6.1.1.2.1 r6.1.1.2.2) (.store ⟨n7, 1, none⟩ (.slice r6.1.2.1.1 r6.1.2.1.2.1 r6.1.2.1.2.2) (.store ⟨n7, 2, none⟩ (.slice r6.1.2.2.1.1 r6.1.2.2.1.2.1 r6.1.2.2.1.2.2) (.store ⟨n7, 3, none⟩ (.slice r6.1.2.2.2.1.1 r6.1.2.2.2.1.2.1 r6.1.2.2.2.1.2.2) (.store ⟨n7, 4, none⟩ (.slice r6.1.2.2.2.2.1.1 r6.1.2.2.2.2.1.2.1 r6.1.2.2.2.2.1.2.2) (.store ⟨n7, 5, none⟩ (.slice r6.1.2.2.2.2.2.1.1 r6.1.2.2.2.2.2.1.2.1 r6.1.2.2.2.2.2.1.2.2) (.store ⟨n7, 6, none⟩ (.slice r6.1.2.2.2.2.2.2.1.1 r6.1.2.2.2.2.2.2.1.2.1 r6.1.2.2.2.2.2.2.1.2.2) (.store ⟨n7, 7, none⟩ (.slice r6.1.2.2.2.2.2.2.2.1.1 r6.1.2.2.2.2.2.2.2.1.2.1 r6.1.2.2.2.2.2.2.2.1.2.2) (.call 10 #[.int .i64 r6.2.2.1] (.one (.leaf (.int .i64))) (fun x8 => .br (x8 != 0) (.cut (at_ Tryz.f3 [1, 1, 1, 0, 1, 0, 0]) 149 (fx3_9 r6 n7) mx3_9 (fun u19 g19 => .done (.returned (.bool u19.1)))) (.cut (at_ Tryz.f3 [1, 1, 1, 1, 0, 0]) 149 (fx3_20 n1 n7) mx3_20 (fun u35 g35 => .br u35.1 (.done (.returned (.bool false))) (.load ⟨n1, 1, none⟩ .sl (fun l36 => .run (vNext (Instr.makeSlice 29 (.int .i64 (↑l36.snd.fst : Int)) (.int .i64 (↑l36.snd.fst : Int)))) (.one (.leaf .sl)) (fun l37 => .loop (at_ Tryz.f3 [1, 1, 1, 1, 1, 1, 0, 1, 0, 0]) 149 (fx3_38 n1 n7 g35 l37) [(7, .int .i64 0)] mx3_38 mr3_38 0 (fun u49 g49 => .loop (at_ Tryz.f3 [1, 1, 1, 1, 1, 1, 1, 0, 1, 0, 0]) 149 (fx3_50 n1 n7 l37) [(8, .int .i64 0)] mx3_50 mr3_50 2 (fun u62 g62 => .loop (at_ Tryz.f3 [1, 1, 1, 1, 1, 1, 1, 1, 0, 1, 0, 0]) 149 (fx3_63 n1 n7 l37) [(9, .int .i64 0)] mx3_63 mr3_63 4 (fun u94 g94 => .done (.returned (.bool true))) (fun u95 g95 => .done (.returned (.bool u95.1)))) (fun u96 g96 => .done (.returned (.bool u96.1)))) (fun u97 g97 => .stuck))))))))))))))))))))))) := by kernel_rfl
/-! ### Plain law -/
theorem fault_code {p : PM} {i c : Nat} (h : faultM p = some (i, c)) : c ≠ 0 := by
  unfold faultM at h
  split at h
  · injection h with h; injection h with h1 h2; omega
  · obtain ⟨a, ha, he⟩ := List.exists_of_findSome?_eq_some h
    obtain ⟨k, hk, he⟩ := Option.map_eq_some_iff.1 he
    injection he with h1 h2
    subst h2
    unfold checkList at ha
    simp only [List.mem_cons, List.not_mem_nil, or_false] at ha
    rcases ha with rfl | rfl | rfl | rfl | rfl | rfl | rfl <;> (dsimp only; omega)
theorem size_of {p : PM} (h : faultM p = none) : 1 ≤ p.tasks.length ∧ p.tasks.length ≤ 12 ∧ p.edges.length ≤ 24 := by
  obtain ⟨hs, -⟩ := faultM_parts h
  unfold sizeBad at hs
  simp only [Bool.or_eq_false_iff, decide_eq_false_iff_not] at hs
  omega
theorem sm_same : sameSM noShape noShape = true := by kernel_rfl
theorem noShape_small : SmallS noShape := by refine ⟨?_, ?_, ?_, ?_, ?_, ?_, ?_, ?_, ?_, ?_⟩ <;> simp [noShape]
theorem nodup_at {α : Type} {l : List α} (h : l.Nodup) {i j : Nat} {t : α} (hi : l[i]? = some t) (hj : l[j]? = some t) : i = j := by
  obtain ⟨a, ha⟩ := List.getElem?_eq_some_iff.1 hi
  obtain ⟨b, hb⟩ := List.getElem?_eq_some_iff.1 hj
  exact (List.getElem_inj h).1 (ha.trans hb.symm)
/-- The places laid so far. -/
structure Plc (o : List Nat) (n i : Nat) (L : List Int) : Prop where
  len : L.length = n
  done : ∀ (j t : Nat), j < i → o[j]? = some t → L[t]? = some ((j : Int) + 1)
  open_ : ∀ (j t : Nat), i ≤ j → o[j]? = some t → L[t]? = some 0
theorem plc_zero {o : List Nat} {n : Nat} (ho : ∀ t ∈ o, t < n) : Plc o n 0 (List.replicate n 0) :=
  ⟨by simp, fun j t h => by omega, fun j t _ h => by rw [List.getElem?_replicate, if_pos (ho t (mem_at h))]⟩
theorem plc_step {o : List Nat} {n i : Nat} {L : List Int} (h : Plc o n i L) (hd : o.Nodup) (ho : ∀ t ∈ o, t < n) {t : Nat} (ht : o[i]? = some t) : Plc o n (i + 1) (L.set t ((i : Int) + 1)) := by
  refine ⟨by simp [h.len], fun j u hj hu => ?_, fun j u hj hu => ?_⟩
  · by_cases e : j = i
    · subst e
      obtain rfl := Option.some.inj (ht.symm.trans hu)
      rw [List.getElem?_set_self (by rw [h.len]; exact ho t (mem_at ht))]
    · have hne : t ≠ u := fun hh => e (nodup_at hd hu (hh ▸ ht))
      rw [List.getElem?_set_ne hne]
      exact h.done j u (by omega) hu
  · have hne : t ≠ u := fun hh => by have := nodup_at hd hu (hh ▸ ht); omega
    rw [List.getElem?_set_ne hne]
    exact h.open_ j u (by omega) hu
/-! ### The walk -/
theorem order_law (w : World) (p : PM) (tp ep : Option Addr) (tc ec : Nat) (h : IsP w tp ep p) (hG : GlS w) :
    Calls Tryz.prog 3 #[planV p tp tc ep ec] w fun r w' => r = .returned (.bool true) ∧ Ch No w w' := by
  refine calls_of_fnT mixed Tryz.func3 (s := s3) ?_
  rw [t3]
  refine nw (cs := planC p tp tc ep ec) fun w1 c1 s1 b1 => ?_
  refine cl_i (known_own w1 (hG.no c1)) ?_
  rintro r w2 ⟨rfl, c2⟩
  refine ⟨true, rfl, br_false rfl ?_⟩
  have c02 := c1.trans c2
  have b12 := b1.ch c2 (fun h => h)
  refine ld_int (b12.cell 0) (ld_sl (b12.cell 1) (ld_sl (b12.cell 2) (cl_i (build_any w2 p tp ep tc ec (h.ch c02) (hG.no c02)) ?_)))
  rintro r w3 ⟨x, rfl, c3, hS⟩
  refine ⟨(x, ((buildM p).2.1 : Nat), ((buildM p).2.2 : Nat), ()), rfl, ?_⟩
  have hS3 : ∀ W, Ch No w3 W → IsS W x (buildM p).1 := fun W hc => hS W (hc.mono fun _ h => h.elim)
  clear hS
  have c03 := c02.trans c3
  have b13 := b12.ch c3 (fun h => h)
  refine nw (cs := [_, _, _, _, _, _, _, _]) fun W1 k1 z1 b3 => ?_
  refine st_blk b3 (by simp) rfl fun W2 c2 s2 b2 => st_blk b2 (by simp) rfl fun W3 c3 s3 b3 => st_blk b3 (by simp) rfl fun W4 c4 s4 b4 => st_blk b4 (by simp) rfl fun W5 c5 s5 b5 => st_blk b5 (by simp) rfl fun W6 c6 s6 b6 => st_blk b6 (by simp) rfl fun W7 c7 s7 b7 => st_blk b7 (by simp) rfl fun W8 c8 s8 b8 => st_blk b8 (by simp) rfl fun w4 c9 s9 b9 => ?_
  have k4 : Ch No w3 w4 := k1.then_ (c2.trans (c3.trans (c4.trans (c5.trans (c6.trans (c7.trans (c8.trans c9))))))) (fun i hi (e : i = w3.heap.size) => by omega)
  have b14 := b13.ch k4 (fun h => h)
  have c04 := c03.trans k4
  have b9l := b9.lt
  have b14l := b14.lt
  have hn17 : w.heap.size < w3.heap.size := by have := b13.lt; omega
  clear c2 c3 c4 c5 c6 c7 c8 c9 s2 s3 s4 s5 s6 s7 s8 s9 b2 b3 b4 b5 b6 b7 b8 k1 z1
  refine cl_i (num_any w4 _) ?_
  rintro r W ⟨rfl, hWw⟩
  rw [hWw]
  clear hWw W
  refine ⟨((buildM p).2.2 : Nat), rfl, ?_⟩
  cases hf : faultM p with
  | some ic =>
    obtain ⟨i, c⟩ := ic
    have hb : buildM p = (noShape, i, c) := by unfold buildM; rw [hf]
    rw [hb] at hS3 ⊢
    have hc := fault_code hf
    refine br_true (by simpa using hc) ?_
    refine cut_i mixed s3_9 (fun v W => Ch No w4 W ∧ v.1 = true) (by kernel_rfl) (fun g => ?_) ?_
    · rw [t3_9]
      refine br_true (decide_eq_true (by show (0 : Int) ≤ ((i : Nat) : Int); omega)) ?_
      refine ld_sl (b9.cell 0) (ld_sl (b9.cell 1) (ld_sl (b9.cell 2) (ld_sl (b9.cell 3) (ld_sl (b9.cell 4) (ld_sl (b9.cell 5) (ld_sl (b9.cell 6) (ld_sl (b9.cell 7) ?_)))))))
      refine cl_i (sameShape_any w4 x nilSh noShape noShape (hS3 w4 k4) (nilSh_is w4) noShape_small) ?_
      rintro r W ⟨rfl, e1⟩
      exact ⟨true, by rw [sm_same]; rfl, rfl, (true, ()), rfl, e1, rfl⟩
    rintro ⟨u, ⟨⟩⟩ g w5 ⟨k5, hu⟩
    dsimp only at hu ⊢
    subst hu
    exact ⟨rfl, c04.trans k5⟩
  | none =>
    have hb : buildM p = (shapeM p, 0, 0) := by unfold buildM; rw [hf]
    rw [hb] at hS3 ⊢
    have hg := good_of hf
    have hsane := hg.sane
    obtain ⟨hlaid, holen⟩ := hg.laid
    obtain ⟨hn1, hn12, hn24⟩ := size_of hf
    have hE := hg.edges
    refine br_false rfl ?_
    refine cut_i mixed s3_20 (fun v W => Ch No w4 W ∧ v.1 = false) (by kernel_rfl) (fun g => ?_) ?_
    · rw [t3_20]
      refine ld_int (b14.cell 0) (ld_sl (b14.cell 1) (ld_sl (b14.cell 2) ?_))
      refine ld_sl (b9.cell 0) (ld_sl (b9.cell 1) (ld_sl (b9.cell 2) (ld_sl (b9.cell 3) (ld_sl (b9.cell 4) (ld_sl (b9.cell 5) (ld_sl (b9.cell 6) (ld_sl (b9.cell 7) ?_)))))))
      refine cl_i (within_any w4 p tp ep tc ec x (shapeM p) (h.ch c04) (hS3 w4 k4) hsane hE) ?_
      rintro r W ⟨rfl, e1⟩
      refine ⟨true, rfl, br_false rfl ?_⟩
      have b9W := b9.ch e1 (fun h => h)
      have hSW := hS3 W (k4.trans e1)
      obtain ⟨u1, hu1, hk1⟩ := source_there hg hn1
      obtain ⟨u2, hu2, hk2⟩ := sink_there hg hn1
      have hl1 : 0 < x.2.2.2.2.1.2.1 := by rw [hSW.l5]; exact List.length_pos_of_mem (kinds_in.2 ⟨hu1, hk1⟩)
      have hl2 : 0 < x.2.2.2.2.2.1.2.1 := by rw [hSW.l6]; exact List.length_pos_of_mem (kinds_in.2 ⟨hu2, hk2⟩)
      refine ld_sl (b9W.cell 4) (br_false (decide_eq_false (by show ¬ ((x.2.2.2.2.1.2.1 : Nat) : Int) < 1; omega)) (ld_sl (b9W.cell 5) ?_))
      exact ⟨rfl, (_, ()), rfl, e1, decide_eq_false (by show ¬ ((x.2.2.2.2.2.1.2.1 : Nat) : Int) < 1; omega)⟩
    rintro ⟨u, ⟨⟩⟩ g w5 ⟨k5, hu⟩
    dsimp only at hu ⊢
    subst hu
    refine br_false rfl ?_
    have b15 := b14.ch k5 (fun h => h)
    have b95 := b9.ch k5 (fun h => h)
    have k35 := k4.trans k5
    have c05 := c04.trans k5
    refine ld_sl (b15.cell 1) ?_
    refine mks_i (e := tInt) (n := p.tasks.length) (bytes := 8) (z := .int .i64 0) (by kernel_rfl) (by kernel_rfl) rfl (by omega) (by omega) fun w6 k6 z6 b6 => ?_
    have b16 := b15.ch k6 (fun h => h)
    have b96 := b95.ch k6 (fun h => h)
    have k36 := k35.trans k6
    have c06 := c05.trans k6
    have z35 := k35.size
    have z05 := c05.size
    have z36 := c03.size
    generalize hbp : w5.heap.size = bp at *
    generalize hb1 : w.heap.size = n1 at *
    generalize hb7 : w3.heap.size = n7 at *
    have hn7p : n7 ≠ bp := by have := b95.lt; omega
    have hn1p : n1 ≠ bp := by omega
    have tot : ∀ W, Ch (fun k => k = bp) w6 W → Ch No w3 W := fun W hc => k36.then_ hc (fun i hi (e : i = bp) => by omega)
    have hx4 : x.2.2.2.1.2.1 = p.tasks.length := by rw [(hS3 w6 k36).l4]; exact holen
    have hx3 : x.2.2.1.2.1 = p.edges.length := by rw [(hS3 w6 k36).l3]; exact hsane.n3
    have hordI : ∀ W, Ch No w3 W → ∀ (j t : Nat), (ordM p)[j]? = some t → ∃ ad, x.2.2.2.1.1 = some ad ∧ W.cell? (ad.add j) = some (.int .i64 ((t : Nat) : Int)) := fun W hc j t ht => (hS3 W hc).order j _ (nat_at ht)
    have hbackI : ∀ W, Ch No w3 W → ∀ (j : Nat) (e : EM), p.edges[j]? = some e → ∃ ad, x.2.2.1.1 = some ad ∧ W.cell? (ad.add j) = some (.bool (loopsM p e)) := fun W hc j e he => (hS3 W hc).back j _ (by show (p.edges.map (loopsM p))[j]? = _; rw [List.getElem?_map, he]; rfl)
    obtain ⟨⟨a1, m1, d1⟩, ⟨a2, m2, d2⟩, ⟨a3, m3, d3⟩, ⟨a4, m4, d4⟩, ⟨a5, m5, d5⟩, ⟨a6, m6, d6⟩, ⟨a7, m7, d7⟩, ⟨a8, m8, d8⟩, ⟨⟩⟩ := x
    dsimp only at hx4 hx3 hordI hbackI
    subst hx4 hx3
    -- the places
    refine loop_i mixed m3_38 s3_38 (by kernel_rfl) (by kernel_rfl) (fun v W => ∃ (i : Nat) (L : List Int), v.1 = (i : Nat) ∧ i ≤ p.tasks.length ∧ Ch (fun k => k = bp) w6 W ∧ Blk W bp (L.map intC) tInt ∧ Plc (ordM p) p.tasks.length i L) (fun v _ => p.tasks.length - v.1.toNat) (0, ()) rfl
      ⟨0, List.replicate p.tasks.length 0, rfl, by omega, Ch.refl _ _, by rw [List.map_replicate]; exact b6, plc_zero hlaid.low⟩ ?_
    rintro ⟨_, ⟨⟩⟩ g W ⟨i, L, rfl, hi, cW, bW, hP⟩
    rw [t3_38]
    have b9W := b96.ch cW (fun h => hn7p h)
    refine ld_sl (b9W.cell 3) (br_both (fun e2 => ?_) fun e2 => ?_)
    · have e2 := lt_t e2
      dsimp only at e2
      obtain ⟨t, ht⟩ := some_at (l := ordM p) (i := i) (by omega)
      have htn := hlaid.low t (mem_at ht)
      have il : ((i : Nat) : Int) < ((p.tasks.length : Nat) : Int) := by omega
      have tl : ((t : Nat) : Int) < ((p.tasks.length : Nat) : Int) := by omega
      obtain ⟨oa, rfl, -⟩ := hordI W (tot W cW) i t ht
      have hoa : ∀ W6, Ch (fun k => k = bp) W W6 → W6.cell? (oa.add i) = some (.int .i64 ((t : Nat) : Int)) := fun W6 h6 => by
        obtain ⟨ad, e1, e2⟩ := hordI W6 (tot W6 (cW.trans h6)) i t ht
        cases e1
        exact e2
      have hst : ∀ W6, Ch (fun k => k = bp) W W6 → _ := fun W6 h6 => (b9W.ch h6 (fun h : n7 = bp => hn7p h)).cell 3
      have c0 : Ch (fun k => k = bp) W W.drew := (Ch.refl _ _).drew
      have bWd : Blk W.drew bp (L.map intC) tInt := bW
      refine hd_i (Ch (fun k => k = bp) W) c0 ?_
      refine lh_sl hst (ix_i (by omega) il ?_)
      rw [Int.toNat_natCast, Nat.mul_one]
      refine lh_int hoa (lh_sl hst (ix_i (by omega) il ?_))
      rw [Int.toNat_natCast, Nat.mul_one]
      refine lh_int hoa (ix_i (by omega) tl ?_)
      rw [Int.toNat_natCast, addr_add, Nat.zero_add, Nat.mul_one]
      have h0 := hP.open_ i t (Nat.le_refl _) ht
      have hcell : W.drew.cell? ⟨bp, t, none⟩ = some (.int .i64 0) := (bWd.cell t).trans (by rw [List.getElem?_map, h0]; rfl)
      refine eff_i (ld_int hcell (bk c0 (ix_i (by omega) tl (eff_i ?_))))
      rw [Int.toNat_natCast, addr_add, Nat.zero_add, Nat.mul_one, show IntKind.i64.wrap (IntKind.i64.wrap (0 + ((i : Nat) : Int)) + 1) = ((i : Nat) : Int) + 1 by rw [Int.zero_add, wrap_in (x := ((i : Nat) : Int)) (by omega) (by omega), wrap_succ (by omega) (by omega)]]
      refine st_blk bWd (by rw [List.length_map, hP.len]; exact htn) rfl fun W6 c6 s6 b6 => bk (c0.trans c6) (un_h ?_)
      exact ⟨(((i : Nat) : Int) + 1, ()), by rw [wrap_succ (by omega) (by omega)]; rfl, ⟨i + 1, L.set t ((i : Int) + 1), rfl, by omega, cW.trans (c0.trans c6), by rw [List.map_set]; exact b6, plc_step hP hlaid.nodup hlaid.low ht⟩, by show p.tasks.length - (((i : Nat) : Int) + 1).toNat < p.tasks.length - ((i : Nat) : Int).toNat; omega⟩
    have e2 := lt_f e2
    dsimp only at e2
    obtain rfl : i = p.tasks.length := by omega
    have k3W := tot W cW
    have c0W : Ch No w W := c03.trans k3W
    have b1W : Blk W n1 _ _ := b16.ch cW (fun h => hn1p h)
    have hLt : ∀ (j t : Nat), (ordM p)[j]? = some t → L[t]? = some ((j : Int) + 1) := fun j t ht => hP.done j t (by have := (List.getElem?_eq_some_iff.1 ht).1; omega) ht
    have hpos : ∀ t, t < p.tasks.length → ∃ j, j < p.tasks.length ∧ (ordM p)[j]? = some t ∧ L[t]? = some ((j : Int) + 1) := fun t ht => by
      obtain ⟨j, hj, he⟩ := List.getElem_of_mem (all_laid hlaid holen ht)
      have := List.getElem?_eq_getElem hj
      rw [he] at this
      exact ⟨j, by omega, this, hLt j t this⟩
    have hcell : ∀ W6, Ch No W W6 → ∀ (t : Nat) (v : Int), L[t]? = some v → W6.cell? ((⟨bp, 0, none⟩ : Addr).add t) = some (.int .i64 v) := fun W6 h6 t v hv => by
      rw [addr_add, Nat.zero_add, (bW.ch h6 (fun h => h)).cell, List.getElem?_map, hv]
      rfl
    refine ⟨rfl, (), rfl, fun g => ?_⟩
    refine loop_i mixed m3_50 s3_50 (by kernel_rfl) (by kernel_rfl) (fun v V => ∃ i : Nat, v.1 = (i : Nat) ∧ i ≤ p.tasks.length ∧ Ch No W V) (fun v _ => p.tasks.length - v.1.toNat) (0, ()) rfl ⟨0, rfl, by omega, Ch.refl _ _⟩ ?_
    rintro ⟨_, ⟨⟩⟩ g V ⟨i, rfl, hi, cV⟩
    rw [t3_50]
    refine br_both (fun e2 => ?_) fun e2 => ?_
    · have e2 := lt_t e2
      dsimp only at e2
      have il : ((i : Nat) : Int) < ((p.tasks.length : Nat) : Int) := by omega
      obtain ⟨j, hj, hoj, hLi⟩ := hpos i (by omega)
      refine cut_i mixed s3_51 (fun v V' => Ch No V V' ∧ v.1 = false) (by kernel_rfl) (fun g => ?_) ?_
      · rw [t3_51]
        refine dr_no (ix_i (by omega) il ?_)
        rw [Int.toNat_natCast, Nat.mul_one]
        have hv := hcell V cV i _ hLi
        obtain ⟨oa, rfl, hoa⟩ := hordI V (k3W.trans cV) j i hoj
        refine lc_int hv (br_false (decide_eq_false (by show ¬ ((j : Nat) : Int) + 1 < 1; omega)) (ix_i (by omega) il ?_))
        rw [Int.toNat_natCast, Nat.mul_one]
        refine lc_int hv (br_false (decide_eq_false (by show ¬ ((p.tasks.length : Nat) : Int) < ((j : Nat) : Int) + 1; omega)) (lc_sl ((b9W.ch cV (fun h => h)).cell 3) (ix_i (by omega) il ?_)))
        rw [Int.toNat_natCast, Nat.mul_one]
        refine lc_int hv ?_
        rw [show IntKind.i64.wrap (((j : Nat) : Int) + 1 - 1) = ((j : Nat) : Int) by rw [Int.add_sub_cancel, wrap_in (by omega) (by omega)]]
        refine ix_i (by omega) (by show ((j : Nat) : Int) < ((p.tasks.length : Nat) : Int); omega) ?_
        rw [Int.toNat_natCast, Nat.mul_one]
        refine lc_int hoa (un_no fun V' cV' => ?_)
        exact ⟨rfl, (_, ()), rfl, cV', bne_self_eq_false _⟩
      rintro ⟨u, ⟨⟩⟩ g V' ⟨cV', hu⟩
      dsimp only at hu ⊢
      subst hu
      refine br_false rfl ?_
      exact ⟨(((i : Nat) : Int) + 1, ()), by rw [wrap_succ (by omega) (by omega)]; rfl, ⟨i + 1, rfl, by omega, cV.trans cV'⟩, by show p.tasks.length - (((i : Nat) : Int) + 1).toNat < p.tasks.length - ((i : Nat) : Int).toNat; omega⟩
    refine ⟨rfl, (), rfl, fun g => ?_⟩
    clear e2 hi
    refine loop_i mixed m3_63 s3_63 (by kernel_rfl) (by kernel_rfl) (fun v V => ∃ i : Nat, v.1 = (i : Nat) ∧ i ≤ p.edges.length ∧ Ch No W V) (fun v _ => p.edges.length - v.1.toNat) (0, ()) rfl ⟨0, rfl, by omega, cV⟩ ?_
    rintro ⟨_, ⟨⟩⟩ g V ⟨i, rfl, hi, cV⟩
    rw [t3_63]
    have b1V := b1W.ch cV (fun h => h)
    refine ld_sl (b1V.cell 2) (br_both (fun e2 => ?_) fun e2 => ?_)
    · have e2 := lt_t e2
      dsimp only at e2
      have il : ((i : Nat) : Int) < ((p.edges.length : Nat) : Int) := by omega
      obtain ⟨ed, hed⟩ := some_at (l := p.edges) (i := i) (by omega)
      obtain ⟨⟨f0, f1⟩, ⟨t0, t1⟩, -⟩ := hE ed (mem_at hed)
      refine ld_sl (b1V.cell 2) (ed_i (h.ch (c0W.trans cV)) hed fun ea n V1 k1 z1 e1 => ?_)
      have cV1 := cV.trans k1
      have b1V1 := b1W.ch cV1 (fun h => h)
      have b9V1 := b9W.ch cV1 (fun h => h)
      refine cut_i mixed s3_72 (fun v V' => Ch No V1 V' ∧ v.1 = false) (by kernel_rfl) (fun g => ?_) ?_
      · rw [t3_72]
        obtain ⟨ba, rfl, hba⟩ := hbackI V1 (k3W.trans cV1) i ed hed
        refine dr_no (lc_sl (b9V1.cell 2) (ix_i (by omega) il ?_))
        rw [Int.toNat_natCast, Nat.mul_one]
        refine lc_bool hba (lc_int (b1V1.cell 0) (lc_sl (b1V1.cell 1) (lc_sl (b1V1.cell 2) (lc_int (e1.cell 0) (lc_int (e1.cell 1) (lc_int (e1.cell 2) (lc_int (e1.cell 3) ?_)))))))
        refine cc_i (x := loopsM p ed) (fun V2 h2 => isBack_any V2 p tp ep tc ec ed (h.ch ((c0W.trans cV1).trans h2)) t0 t1) ?_
        refine br_false (by cases loopsM p ed <;> rfl) (lc_sl (b9V1.cell 2) (ix_i (by omega) il ?_))
        rw [Int.toNat_natCast, Nat.mul_one]
        refine lc_bool hba (br_both (fun e3 => ?_) fun e3 => un_no fun V2 h2 => ⟨rfl, (false, ()), rfl, h2, rfl⟩)
        have e3 : loopsM p ed = false := by simpa using e3
        obtain ⟨jf, hjf, hof, hLf⟩ := hpos ed.frm.toNat (by omega)
        obtain ⟨jt, hjt, hot, hLt2⟩ := hpos ed.to.toNat (by omega)
        have hfw : jf < jt := forward hlaid (a := ed.frm.toNat) (b := ed.to.toNat) (List.mem_map.2 ⟨ed, List.mem_filter.2 ⟨mem_at hed, by rw [e3]; rfl⟩, rfl⟩) hof hot
        refine lc_int (e1.cell 0) (ix_i f0 f1 ?_)
        rw [Nat.mul_one]
        refine lc_int (hcell V1 cV1 _ _ hLf) (lc_int (e1.cell 2) (ix_i t0 t1 ?_))
        rw [Nat.mul_one]
        refine lc_int (hcell V1 cV1 _ _ hLt2) (un_no fun V2 h2 => ?_)
        exact ⟨rfl, (_, ()), rfl, h2, decide_eq_false (by show ¬ ((jt : Nat) : Int) + 1 ≤ ((jf : Nat) : Int) + 1; omega)⟩
      rintro ⟨u, ⟨⟩⟩ g V' ⟨cV', hu⟩
      dsimp only at hu ⊢
      subst hu
      refine br_false rfl ?_
      exact ⟨(((i : Nat) : Int) + 1, ()), by rw [wrap_succ (by omega) (by omega)]; rfl, ⟨i + 1, rfl, by omega, cV1.trans cV'⟩, by show p.edges.length - (((i : Nat) : Int) + 1).toNat < p.edges.length - ((i : Nat) : Int).toNat; omega⟩
    exact ⟨rfl, (), rfl, fun g => ⟨rfl, c0W.trans cV⟩⟩
end Go.Proofs.YtkebljkdkaagfaaGreatDoor.S
