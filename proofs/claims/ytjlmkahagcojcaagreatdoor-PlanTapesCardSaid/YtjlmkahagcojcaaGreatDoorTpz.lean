/- CheckRecord, PrintTape, two tapes compared. -/
import Derived.Test.YtjlmkahagcojcaaGreatDoorTpy
import Derived.Test.YtjlmkahagcojcaaGreatDoorKrt
import Derived.Test.YtjlmkahagcojcaaGreatDoorSup
namespace Go.Proofs.YtjlmkahagcojcaaGreatDoor.V
open Go Tr
set_option maxRecDepth 100000
/-! the tree of function 51 -/
abbrev fx51_10 (l9 : Option Addr × Nat × Nat) : List (Tmp × Value) := [(21, .slice l9.1 l9.2.1 l9.2.2), (22, .int .i64 (↑l9.snd.fst : Int))]
abbrev m51_10 : List (Tmp × Comp) := [(23, .leaf (.int .i64))]
abbrev mx51_10 : List (Tmp × Comp) := []
abbrev mr51_10 : List (Tmp × Comp) := [(2, .leaf (.int .i64))]
def s51_10 : Script := .sym (.ix (.ld (.int .i64) (.sym (.lit (.lit (.lit .nil))) (.lit (.lit (.sym .nil .nil)))))) .nil
theorem t51_10 (l9 : Option Addr × Nat × Nat) (x_23 : Int) (gg10 : Nat → Value) : pieceT Tryz.prog (at_ Tryz.f51 [1, 1, 1, 1, 0, 1, 0, 0]) 34 (fx51_10 l9 ++ mvals m51_10 (x_23, ())) gg10 (m51_10.map (·.1)) (mx51_10.map (·.1)) (mr51_10.map (·.1)) s51_10 = .br (Decidable.decide (x_23 < (↑l9.snd.fst : Int))) (.idx l9.1 x_23 l9.2.1 1 (fun a11 => .load a11 (.int .i64) (fun x12 => .br (Decidable.decide (x12 < 0)) (.fin .ret [(2, .int .i64 25)]) (.br (Decidable.decide (x12 > 9)) (.fin .ret [(2, .int .i64 25)]) (.fin .normal [(23, .int .i64 (IntKind.i64.wrap (x_23 + 1)))]))))) (.fin (.exit 0) []) := by kernel_rfl
def s51 : Script := .ld .str (.sym .nil (.ld (.int .i64) (.ld (.int .i64) (.ld .str (.ld .sl (.cl (.one (.leaf (.int .i64))) (.sym .nil (.ld .sl (.sym .nil (.ld .sl (.lp 0 [21, 22] [23] mx51_10 mr51_10 .nil .nil)))))))))))
theorem t51 (qs0_0 : ByteArray) (qx0_1 : Int) (qx0_2 : Int) (qs0_3 : ByteArray) (qa0_4 : Option Addr) (qn0_4 : Nat) (qc0_4 : Nat) (qa0_5 : Option Addr) (qn0_5 : Nat) (qc0_5 : Nat) : fnT Tryz.prog Tryz.f51 #[.agg #[.string qs0_0, .int .i64 qx0_1, .int .i64 qx0_2, .string qs0_3, .slice qa0_4 qn0_4 qc0_4, .slice qa0_5 qn0_5 qc0_5]] s51 = .new (.cells #[.string qs0_0, .int .i64 qx0_1, .int .i64 qx0_2, .string qs0_3, .slice qa0_4 qn0_4 qc0_4, .slice qa0_5 qn0_5 qc0_5] 54 (0, 0)) (fun n1 => .load ⟨n1, 0, none⟩ .str (fun s2 => .br (Decidable.decide ((↑s2.size : Int) > 12)) (.done (.returned (.int .i64 24))) (.load ⟨n1, 1, none⟩ (.int .i64) (fun x3 => .load ⟨n1, 2, none⟩ (.int .i64) (fun x4 => .load ⟨n1, 3, none⟩ .str (fun s5 => .load ⟨n1, 4, none⟩ .sl (fun l6 => .call 87 #[.agg #[.int .i64 x3, .int .i64 x4, .string s5, .slice l6.1 l6.2.1 l6.2.2]] (.one (.leaf (.int .i64))) (fun x7 => .br (x7 != 0) (.done (.returned (.int .i64 x7))) (.load ⟨n1, 5, none⟩ .sl (fun l8 => .br (Decidable.decide ((↑l8.snd.fst : Int) > 3)) (.done (.returned (.int .i64 25))) (.load ⟨n1, 5, none⟩ .sl (fun l9 => .loop (at_ Tryz.f51 [1, 1, 1, 1, 0, 1, 0, 0]) 34 (fx51_10 l9) [(23, .int .i64 0)] mx51_10 mr51_10 0 (fun u13 g13 => .done (.returned (.int .i64 0))) (fun u14 g14 => .done (.returned (.int .i64 u14.1))))))))))))))) := by kernel_rfl
/-! the tree of function 18 -/
abbrev fx18_3 (qa0 : Option Addr) (qn0 : Nat) (qc0 : Nat) (n2 : Nat) : List (Tmp × Value) := [(4, .pointer (some ⟨n2, 0, none⟩)), (11, .slice qa0 qn0 qc0), (12, .int .i64 (↑qn0 : Int))]
abbrev m18_3 : List (Tmp × Comp) := [(13, .leaf (.int .i64))]
abbrev mx18_3 : List (Tmp × Comp) := []
abbrev mr18_3 : List (Tmp × Comp) := [(2, .leaf .str), (3, .leaf .any)]
abbrev fx18_12 (qa0 : Option Addr) (qn0 : Nat) (qc0 : Nat) (n2 : Nat) (x_13 : Int) (n11 : Nat) : List (Tmp × Value) := [(4, .pointer (some ⟨n2, 0, none⟩)), (6, .pointer (some ⟨n11, 0, none⟩)), (11, .slice qa0 qn0 qc0), (12, .int .i64 (↑qn0 : Int)), (13, .int .i64 x_13)]
abbrev mx18_12 : List (Tmp × Comp) := [(25, .leaf .bool)]
def s18_12 : Script := .ld .str (.ld (.int .i64) (.ld (.int .i64) (.ld .str (.ld .sl (.ld .sl (.cl (.one (.leaf (.int .i64))) (.sym (.lit (.lit (.lit (.lit .nil)))) (.lit (.ld .sl (.lit (.lit (.lit .nil))))))))))))
theorem t18_12 (qa0 : Option Addr) (qn0 : Nat) (qc0 : Nat) (n2 : Nat) (x_13 : Int) (n11 : Nat) (gg12 : Nat → Value) : pieceT Tryz.prog (at_ Tryz.f18 [1, 1, 1, 0, 1, 0, 0, 1, 1, 0, 0, 1, 0, 0]) 43 (fx18_12 qa0 qn0 qc0 n2 x_13 n11) gg12 (mx18_12.map (·.1)) [] [] s18_12 = .load ⟨n11, 0, none⟩ .str (fun s13 => .load ⟨n11, 1, none⟩ (.int .i64) (fun x14 => .load ⟨n11, 2, none⟩ (.int .i64) (fun x15 => .load ⟨n11, 3, none⟩ .str (fun s16 => .load ⟨n11, 4, none⟩ .sl (fun l17 => .load ⟨n11, 5, none⟩ .sl (fun l18 => .call 51 #[.agg #[.string s13, .int .i64 x14, .int .i64 x15, .string s16, .slice l17.1 l17.2.1 l17.2.2, .slice l18.1 l18.2.1 l18.2.2]] (.one (.leaf (.int .i64))) (fun x19 => .br (x19 != 0) (.fin .normal [(25, .bool true)]) (.load ⟨n11, 5, none⟩ .sl (fun l20 => .fin .normal [(25, .bool (Decidable.decide ((↑l20.snd.fst : Int) > 0)))]))))))))) := by kernel_rfl
def s18_3 : Script := .sym (.ix (.ld .str (.ld (.int .i64) (.ld (.int .i64) (.ld .str (.ld .sl (.ld .sl (.ct 1 [4, 6, 11, 12, 13] mx18_12 (.sym (.cl (.one (.leaf .any)) .nil) (.hd0 (.hq 0 (.hq 1 (.ld .str (.hq 2 (.hq 5 (.hq 6 (.ld (.int .i64) (.ld (.int .i64) (.ld .str (.ld .sl (.he 3 (.cl (.one (.leaf .str)) (.hq 4 (.nd (.he 7 (.cl (.one (.leaf .str)) (.hq 8 (.nd (.hq 9 (.nd (.he 10 (.cl (.tup [.leaf (.int .i64), .leaf .any]) .nil)))))))))))))))))))))))))))))))) .nil
theorem t18_3 (qa0 : Option Addr) (qn0 : Nat) (qc0 : Nat) (n2 : Nat) (x_13 : Int) (gg3 : Nat → Value) : pieceT Tryz.prog (at_ Tryz.f18 [1, 1, 1, 0, 1, 0, 0]) 43 (fx18_3 qa0 qn0 qc0 n2 ++ mvals m18_3 (x_13, ())) gg3 (m18_3.map (·.1)) (mx18_3.map (·.1)) (mr18_3.map (·.1)) s18_3 = .br (Decidable.decide (x_13 < (↑qn0 : Int))) (.idx qa0 x_13 qn0 6 (fun a4 => .load a4 .str (fun s5 => .load (a4.add 1) (.int .i64) (fun x6 => .load (a4.add 2) (.int .i64) (fun x7 => .load (a4.add 3) .str (fun s8 => .load (a4.add 4) .sl (fun l9 => .load (a4.add 5) .sl (fun l10 => .new (.cells #[.string (bytesL []), .int .i64 0, .int .i64 0, .string (bytesL []), .slice none 0 0, .slice none 0 0] 54 (0, 0)) (fun n11 => .store ⟨n11, 0, none⟩ (.string s5) (.store ⟨n11, 1, none⟩ (.int .i64 x6) (.store ⟨n11, 2, none⟩ (.int .i64 x7) (.store ⟨n11, 3, none⟩ (.string s8) (.store ⟨n11, 4, none⟩ (.slice l9.1 l9.2.1 l9.2.2) (.store ⟨n11, 5, none⟩ (.slice l10.1 l10.2.1 l10.2.2) (.cut (at_ Tryz.f18 [1, 1, 1, 0, 1, 0, 0, 1, 1, 0, 0, 1, 0, 0]) 43 (fx18_12 qa0 qn0 qc0 n2 x_13 n11) mx18_12 (fun u21 g21 => .br u21.1 (.call 32 #[] (.one (.leaf .any)) (fun v22 => .fin .ret [(2, .string (bytesL [])), (3, v22)])) (.hdrawn (.load ⟨n11, 0, none⟩ .str (fun s23 => .load ⟨n11, 1, none⟩ (.int .i64) (fun x24 => .load ⟨n11, 2, none⟩ (.int .i64) (fun x25 => .load ⟨n11, 3, none⟩ .str (fun s26 => .load ⟨n11, 4, none⟩ .sl (fun l27 => .eff (.call 52 #[.agg #[.int .i64 2, .int .i64 0, .string s23, .slice none 0 0]] (.one (.leaf .str)) (fun s28 => .back (.need (Decidable.decide (s28.size + (bytesL [32]).size ≤ 9223372036854775807)) (.eff (.call 52 #[.agg #[.int .i64 x24, .int .i64 x25, .string s26, .slice l27.1 l27.2.1 l27.2.2]] (.one (.leaf .str)) (fun s29 => .back (.need (Decidable.decide ((s28 ++ bytesL [32]).size + s29.size ≤ 9223372036854775807)) (.need (Decidable.decide ((s28 ++ bytesL [32] ++ s29).size + (bytesL [10]).size ≤ 9223372036854775807)) (.eff (.call 35 #[.pointer (some ⟨n2, 0, none⟩), .string (s28 ++ bytesL [32] ++ s29 ++ bytesL [10])] (.tup [.leaf (.int .i64), .leaf .any]) (fun r30 => .back (.undrawn (.fin .normal [(13, .int .i64 (IntKind.i64.wrap (x_13 + 1)))])))))))))))))))))))))))))))))))))))) (.fin (.exit 0) []) := by kernel_rfl
def s18 : Script := .sym (.cl (.one (.leaf .any)) .nil) (.lp 0 [4, 11, 12] [13] mx18_3 mr18_3 (.cl (.one (.leaf (.int .i64))) (.sym (.cl (.one (.leaf .any)) .nil) (.cl (.one (.leaf .str)) .nil))) .nil)
theorem t18 (qa0 : Option Addr) (qn0 : Nat) (qc0 : Nat) : fnT Tryz.prog Tryz.f18 #[.slice qa0 qn0 qc0] s18 = .br (Decidable.decide ((↑qn0 : Int) > 64)) (.call 32 #[] (.one (.leaf .any)) (fun v1 => .done (.returned (.tuple #[.string (bytesL []), v1])))) (.new (.cells #[.pointer none, .slice none 0 0] 94 (0, 0)) (fun n2 => .loop (at_ Tryz.f18 [1, 1, 1, 0, 1, 0, 0]) 43 (fx18_3 qa0 qn0 qc0 n2) [(13, .int .i64 0)] mx18_3 mr18_3 0 (fun u31 g31 => .call 38 #[.pointer (some ⟨n2, 0, none⟩)] (.one (.leaf (.int .i64))) (fun x32 => .br (Decidable.decide (x32 > 4000)) (.call 32 #[] (.one (.leaf .any)) (fun v33 => .done (.returned (.tuple #[.string (bytesL []), v33])))) (.call 39 #[.pointer (some ⟨n2, 0, none⟩)] (.one (.leaf .str)) (fun s34 => .done (.returned (.tuple #[.string s34, .nilIface])))))) (fun u35 g35 => .done (.returned (.tuple #[.string u35.1, u35.snd.1]))))) := by kernel_rfl
/-! the tree of function 49 -/
abbrev fx49_3 (n1 : Nat) (n2 : Nat) : List (Tmp × Value) := [(2, .pointer (some ⟨n1, 0, none⟩)), (3, .pointer (some ⟨n2, 0, none⟩))]
abbrev mx49_3 : List (Tmp × Comp) := [(34, .leaf .bool)]
def s49_3 : Script := .ld (.int .i64) (.ld (.int .i64) (.sym (.lit (.lit (.lit (.lit (.lit (.lit (.lit (.lit (.lit (.lit (.lit (.lit (.lit (.lit (.lit (.lit (.lit (.lit (.lit .nil))))))))))))))))))) (.lit (.ld (.int .i64) (.lit (.lit (.ld (.int .i64) (.lit (.lit (.sym (.lit (.lit (.lit (.lit (.lit (.lit (.lit (.lit (.lit (.lit (.lit (.lit (.lit .nil))))))))))))) (.lit (.ld .str (.lit (.lit (.ld .str (.lit (.lit (.sym (.lit (.lit (.lit (.lit (.lit (.lit (.lit .nil))))))) (.lit (.ld .sl (.lit (.lit (.lit (.ld .sl (.lit (.lit (.lit .nil)))))))))))))))))))))))))))
theorem t49_3 (n1 : Nat) (n2 : Nat) (gg3 : Nat → Value) : pieceT Tryz.prog (at_ Tryz.f49 [1, 0, 0]) 55 (fx49_3 n1 n2) gg3 (mx49_3.map (·.1)) [] [] s49_3 = .load ⟨n1, 0, none⟩ (.int .i64) (fun x4 => .load ⟨n2, 0, none⟩ (.int .i64) (fun x5 => .br (x4 != x5) (.fin .normal [(34, .bool true)]) (.load ⟨n1, 1, none⟩ (.int .i64) (fun x6 => .load ⟨n2, 1, none⟩ (.int .i64) (fun x7 => .br (x6 != x7) (.fin .normal [(34, .bool true)]) (.load ⟨n1, 2, none⟩ .str (fun s8 => .load ⟨n2, 2, none⟩ .str (fun s9 => .br (!s8.toList == s9.toList) (.fin .normal [(34, .bool true)]) (.load ⟨n1, 3, none⟩ .sl (fun l10 => .load ⟨n2, 3, none⟩ .sl (fun l11 => .fin .normal [(34, .bool ((↑l10.snd.fst : Int) != (↑l11.snd.fst : Int)))]))))))))))) := by kernel_rfl
abbrev fx49_13 (n1 : Nat) (n2 : Nat) : List (Tmp × Value) := [(2, .pointer (some ⟨n1, 0, none⟩)), (3, .pointer (some ⟨n2, 0, none⟩))]
abbrev m49_13 : List (Tmp × Comp) := [(5, .leaf (.int .i64))]
abbrev mx49_13 : List (Tmp × Comp) := []
abbrev mr49_13 : List (Tmp × Comp) := [(4, .leaf .bool)]
def s49_13 : Script := .ld .sl (.sym (.qt (.ld .sl (.ix (.ld (.int .i64) (.ld (.int .i64) (.ld .str (.ld .sl (.ld .sl (.ix (.ld (.int .i64) (.ld (.int .i64) (.ld .str (.ld .sl (.cl (.one (.leaf .bool)) (.sym .nil .nil))))))))))))))) .nil)
theorem t49_13 (n1 : Nat) (n2 : Nat) (x_5 : Int) (gg13 : Nat → Value) : pieceT Tryz.prog (at_ Tryz.f49 [1, 1, 0, 1, 0, 0]) 55 (fx49_13 n1 n2 ++ mvals m49_13 (x_5, ())) gg13 (m49_13.map (·.1)) (mx49_13.map (·.1)) (mr49_13.map (·.1)) s49_13 = .load ⟨n1, 3, none⟩ .sl (fun l14 => .br (Decidable.decide (x_5 < (↑l14.snd.fst : Int))) (.drawn (.load ⟨n1, 3, none⟩ .sl (fun l15 => .idx l15.1 x_5 l15.2.1 4 (fun a16 => .load a16 (.int .i64) (fun x17 => .load (a16.add 1) (.int .i64) (fun x18 => .load (a16.add 2) .str (fun s19 => .load (a16.add 3) .sl (fun l20 => .load ⟨n2, 3, none⟩ .sl (fun l21 => .idx l21.1 x_5 l21.2.1 4 (fun a22 => .load a22 (.int .i64) (fun x23 => .load (a22.add 1) (.int .i64) (fun x24 => .load (a22.add 2) .str (fun s25 => .load (a22.add 3) .sl (fun l26 => .call 49 #[.agg #[.int .i64 x17, .int .i64 x18, .string s19, .slice l20.1 l20.2.1 l20.2.2], .agg #[.int .i64 x23, .int .i64 x24, .string s25, .slice l26.1 l26.2.1 l26.2.2]] (.one (.leaf .bool)) (fun b27 => .undrawn (.br (!b27) (.fin .ret [(4, .bool false)]) (.fin .normal [(5, .int .i64 (IntKind.i64.wrap (x_5 + 1)))]))))))))))))))))) (.fin (.exit 0) [])) := by kernel_rfl
def s49 : Script := .ct 2 [2, 3] mx49_3 (.sym .nil (.lp 0 [2, 3] [5] mx49_13 mr49_13 .nil .nil))
theorem t49 (qx0_0 : Int) (qx0_1 : Int) (qs0_2 : ByteArray) (qa0_3 : Option Addr) (qn0_3 : Nat) (qc0_3 : Nat) (qx1_0 : Int) (qx1_1 : Int) (qs1_2 : ByteArray) (qa1_3 : Option Addr) (qn1_3 : Nat) (qc1_3 : Nat) : fnT Tryz.prog Tryz.f49 #[.agg #[.int .i64 qx0_0, .int .i64 qx0_1, .string qs0_2, .slice qa0_3 qn0_3 qc0_3], .agg #[.int .i64 qx1_0, .int .i64 qx1_1, .string qs1_2, .slice qa1_3 qn1_3 qc1_3]] s49 = .new (.cells #[.int .i64 qx0_0, .int .i64 qx0_1, .string qs0_2, .slice qa0_3 qn0_3 qc0_3] 52 (0, 0)) (fun n1 => .new (.cells #[.int .i64 qx1_0, .int .i64 qx1_1, .string qs1_2, .slice qa1_3 qn1_3 qc1_3] 52 (0, 0)) (fun n2 => .cut (at_ Tryz.f49 [1, 0, 0]) 55 (fx49_3 n1 n2) mx49_3 (fun u12 g12 => .br u12.1 (.done (.returned (.bool false))) (.loop (at_ Tryz.f49 [1, 1, 0, 1, 0, 0]) 55 (fx49_13 n1 n2) [(5, .int .i64 0)] mx49_13 mr49_13 0 (fun u28 g28 => .done (.returned (.bool true))) (fun u29 g29 => .done (.returned (.bool u29.1))))))) := by kernel_rfl
/-! the tree of function 16 -/
abbrev fx16_1 (qa0 : Option Addr) (qn0 : Nat) (qc0 : Nat) (qa1 : Option Addr) (qn1 : Nat) (qc1 : Nat) : List (Tmp × Value) := [(0, .slice qa0 qn0 qc0), (1, .slice qa1 qn1 qc1)]
abbrev m16_1 : List (Tmp × Comp) := [(5, .leaf (.int .i64))]
abbrev mx16_1 : List (Tmp × Comp) := []
abbrev mr16_1 : List (Tmp × Comp) := [(4, .leaf .bool)]
def s16_1 : Script := .sym (.qt (.ix (.ld .str (.ix (.ld .str (.sym (.lit (.lit (.lit (.lit (.lit (.lit (.lit (.lit (.lit (.lit (.lit (.lit (.lit (.lit (.lit (.lit (.lit (.lit (.lit (.lit (.lit (.lit (.lit (.lit (.lit (.lit .nil)))))))))))))))))))))))))) (.lit (.lit (.ix (.lit (.lit (.ld (.int .i64) (.ld (.int .i64) (.ld .str (.ld .sl (.lit (.lit (.lit (.ix (.lit (.lit (.ld (.int .i64) (.ld (.int .i64) (.ld .str (.ld .sl (.lit (.cl (.one (.leaf .bool)) (.lit (.lit (.sym (.lit (.lit (.lit (.lit (.lit (.lit (.lit (.lit (.lit (.lit (.lit (.lit (.lit .nil))))))))))))) (.lit (.lit (.ix (.lit (.lit (.ld .sl (.lit (.lit (.lit (.ix (.lit (.lit (.ld .sl (.lit (.cl (.one (.leaf .bool)) (.lit (.lit (.sym .nil .nil)))))))))))))))))))))))))))))))))))))))))))))))) .nil
theorem t16_1 (qa0 : Option Addr) (qn0 : Nat) (qc0 : Nat) (qa1 : Option Addr) (qn1 : Nat) (qc1 : Nat) (x_5 : Int) (gg1 : Nat → Value) : pieceT Tryz.prog (at_ Tryz.f16 [1, 1, 0, 1, 0, 0]) 56 (fx16_1 qa0 qn0 qc0 qa1 qn1 qc1 ++ mvals m16_1 (x_5, ())) gg1 (m16_1.map (·.1)) (mx16_1.map (·.1)) (mr16_1.map (·.1)) s16_1 = .br (Decidable.decide (x_5 < (↑qn0 : Int))) (.drawn (.idx qa0 x_5 qn0 6 (fun a2 => .load a2 .str (fun s3 => .idx qa1 x_5 qn1 6 (fun a4 => .load a4 .str (fun s5 => .br (!s3.toList == s5.toList) (.undrawn (.fin .ret [(4, .bool false)])) (.idx qa0 x_5 qn0 6 (fun a6 => .load (a6.add 1) (.int .i64) (fun x7 => .load ((a6.add 1).add 1) (.int .i64) (fun x8 => .load ((a6.add 1).add 2) .str (fun s9 => .load ((a6.add 1).add 3) .sl (fun l10 => .idx qa1 x_5 qn1 6 (fun a11 => .load (a11.add 1) (.int .i64) (fun x12 => .load ((a11.add 1).add 1) (.int .i64) (fun x13 => .load ((a11.add 1).add 2) .str (fun s14 => .load ((a11.add 1).add 3) .sl (fun l15 => .call 49 #[.agg #[.int .i64 x7, .int .i64 x8, .string s9, .slice l10.1 l10.2.1 l10.2.2], .agg #[.int .i64 x12, .int .i64 x13, .string s14, .slice l15.1 l15.2.1 l15.2.2]] (.one (.leaf .bool)) (fun b16 => .br (!b16) (.undrawn (.fin .ret [(4, .bool false)])) (.idx qa0 x_5 qn0 6 (fun a17 => .load (a17.add 5) .sl (fun l18 => .idx qa1 x_5 qn1 6 (fun a19 => .load (a19.add 5) .sl (fun l20 => .call 31 #[.slice l18.1 l18.2.1 l18.2.2, .slice l20.1 l20.2.1 l20.2.2] (.one (.leaf .bool)) (fun b21 => .undrawn (.br (!b21) (.fin .ret [(4, .bool false)]) (.fin .normal [(5, .int .i64 (IntKind.i64.wrap (x_5 + 1)))])))))))))))))))))))))))))) (.fin (.exit 0) []) := by kernel_rfl
def s16 : Script := .sym .nil (.lp 0 [0, 1] [5] mx16_1 mr16_1 .nil .nil)
theorem t16 (qa0 : Option Addr) (qn0 : Nat) (qc0 : Nat) (qa1 : Option Addr) (qn1 : Nat) (qc1 : Nat) : fnT Tryz.prog Tryz.f16 #[.slice qa0 qn0 qc0, .slice qa1 qn1 qc1] s16 = .br ((↑qn0 : Int) != (↑qn1 : Int)) (.done (.returned (.bool false))) (.loop (at_ Tryz.f16 [1, 1, 0, 1, 0, 0]) 56 (fx16_1 qa0 qn0 qc0 qa1 qn1 qc1) [(5, .int .i64 0)] mx16_1 mr16_1 0 (fun u22 g22 => .done (.returned (.bool true))) (fun u23 g23 => .done (.returned (.bool u23.1)))) := by kernel_rfl
theorem crec_any (r : RecM) (vq : Option Addr) (vn vc : Nat) (kp : Option Addr) (kn kc : Nat) (w : World) (hv : IsV w r.val vq vn vc) (hk : AtI w kp kn r.loops) :
    Calls Tryz.prog 51 #[.agg #[.string r.key, .int .i64 r.val.kind, .int .i64 r.val.int, .string r.val.text, .slice vq vn vc, .slice kp kn kc]] w fun e w' => e = .returned (.int .i64 (checkRec r)) ∧ Ch No w w' := by
  refine calls_of_fnT mixed Tryz.func51 (s := s51) ?_
  rw [t51]
  refine nw fun w1 h1 z1 b1 => ?_
  unfold checkRec
  refine ld_str (b1.cell 0) (br_both (fun e => ?_) fun e => ?_)
  · have e := gt_t e
    rw [if_pos (by omega)]
    exact ⟨rfl, h1⟩
  have e := gt_f e
  rw [if_neg (by omega)]
  refine ld_int (b1.cell 1) (ld_int (b1.cell 2) (ld_str (b1.cell 3) (ld_sl (b1.cell 4) ?_)))
  refine cl_i (check_any r.val vq vn vc w1 (hv.no h1)) ?_
  rintro e' w2 ⟨rfl, h2⟩
  have b2 := b1.ch h2 (fun h => h)
  have H2 := h1.trans h2
  refine ⟨_, rfl, br_both (fun e => ?_) fun e => ?_⟩
  · rw [if_pos (ne_t e)]
    exact ⟨rfl, H2⟩
  rw [if_neg (fun h => h (ne_f e))]
  have hkl := hk.1
  refine ld_sl (b2.cell 5) ?_
  dsimp only
  refine br_both (fun e => ?_) fun e => ?_
  · have e := gt_t e
    rw [if_pos (by omega)]
    exact ⟨rfl, H2⟩
  have e := gt_f e
  rw [if_neg (by omega)]
  refine ld_sl (b2.cell 5) ?_
  refine loop_i mixed m51_10 s51_10 (by kernel_rfl) (by kernel_rfl)
    (fun (v : Int × Unit) w' => w' = w2 ∧ ∃ i : Nat, v.1 = i ∧ i ≤ kn ∧ (r.loops.take i).all (fun n => decide (0 ≤ n ∧ n ≤ 9)) = true) (fun (v : Int × Unit) _ => kn - v.1.toNat) (0, ()) rfl ⟨rfl, 0, rfl, by omega, rfl⟩ ?_
  rintro ⟨_, ⟨⟩⟩ g w3 ⟨rfl, i, rfl, hi, hall⟩
  rw [t51_10]
  refine br_both (fun e => ?_) fun e => ?_
  · have hin : i < kn := by
      have : (i : Int) < (kn : Int) := lt_t e
      omega
    obtain ⟨g1, o1, rfl, hc⟩ := hk.2 (by omega)
    obtain ⟨x, hx⟩ : ∃ u, r.loops[i]? = some u := ⟨_, List.getElem?_eq_getElem (by omega)⟩
    have bad : ¬ (0 ≤ x ∧ x ≤ 9) → ¬ r.loops.all (fun n => decide (0 ≤ n ∧ n ≤ 9)) = true := fun hb h => hb (of_decide_eq_true (List.all_eq_true.1 h x (List.mem_of_getElem? hx)))
    refine ix_i (by omega) (by show (i : Int) < (kn : Int); omega) ?_
    rw [addr_add, Int.toNat_natCast, Nat.mul_one]
    refine ld_int (H2.cellv (hc i x hx) (fun h => h)) (br_both (fun e => ?_) fun e1 => br_both (fun e => ?_) fun e2 => ?_)
    · have e := lt_t e
      refine ⟨(25, ()), rfl, fun g => ⟨?_, H2⟩⟩
      rw [if_neg (bad (by omega))]
    · have e := gt_t e
      refine ⟨(25, ()), rfl, fun g => ⟨?_, H2⟩⟩
      rw [if_neg (bad (by omega))]
    · have e1 := lt_f e1
      have e2 := gt_f e2
      have hw : IntKind.i64.wrap ((i : Int) + 1) = ((i + 1 : Nat) : Int) := wrap_succ (by omega) (by omega)
      rw [hw]
      refine ⟨(((i + 1 : Nat) : Int), ()), rfl, ⟨rfl, i + 1, rfl, by omega, ?_⟩, by dsimp only; omega⟩
      rw [List.take_add_one, hx]
      simp only [List.all_append, hall, Option.toList_some, List.all_cons, List.all_nil, Bool.and_true, Bool.true_and]
      exact decide_eq_true ⟨e1, e2⟩
  · have hin : i = kn := by
      have : (kn : Int) ≤ (i : Int) := lt_f e
      omega
    refine ⟨rfl, (), rfl, fun g => ⟨?_, H2⟩⟩
    rw [List.take_of_length_le (by omega)] at hall
    rw [if_pos hall]
def TPrintRes (l : List RecM) (w : World) (e : Ending) (w' : World) : Prop :=
  Ch No w w' ∧ match printTp l with
    | some t => e = .returned (.tuple #[.string (bytesL t), .nilIface])
    | none => ∃ v, e = .returned (.tuple #[.string (bytesL []), v]) ∧ ErrAt w' v 0 0 68
theorem recsTxt_cons (r : RecM) (l : List RecM) : recsTxt (r :: l) = if checkRec r ≠ 0 then none else if 0 < r.loops.length then none else (recsTxt l).map (recTxt r ++ ·) := rfl
theorem txt_len (x : VT) (h : Fit x) : (printTxt x).length ≤ 2000 := by
  have a1 := print_len _ (validV x) (Nat.lt_succ_self _) (validV_fit h)
  have a2 := cost_le x
  unfold printTxt
  omega
theorem add_add6 {w : World} {ad : Addr} {j : Nat} {x : RecM} {vq : Option Addr} {vn vc : Nat} (h : CellsV w ((ad.add (j * 6)).add 1) x.val vq vn vc) :
    w.cell? ((ad.add (j * 6)).add 1) = some (.int .i64 x.val.kind) ∧ w.cell? ((ad.add (j * 6)).add 2) = some (.int .i64 x.val.int) ∧ w.cell? ((ad.add (j * 6)).add 3) = some (.string x.val.text) ∧ w.cell? ((ad.add (j * 6)).add 4) = some (.slice vq vn vc) := by
  obtain ⟨h1, h2, h3, h4⟩ := h
  rw [add_add] at h2 h3 h4
  exact ⟨h1, h2, h3, h4⟩
theorem ptape_print (p : Option Addr) (n c : Nat) (l : List RecM) (w : World) (ha : AtT w p n l) (hf : ∀ r ∈ l, Fit r.val) (G : GlobT w) (tb : Tabs w) :
    Calls Tryz.prog 18 #[.slice p n c] w (TPrintRes l w) := by
  refine calls_of_fnT mixed Tryz.func18 (s := s18) ?_
  rw [t18]
  have hl := ha.1
  have hGs : 9 ≤ w.heap.size := G.size
  have hps : printTp l = if 64 < l.length then none else match recsTxt l with
    | none => none
    | some t => if 4000 < t.length then none else some t := rfl
  refine br_both (fun e => ?_) fun e => ?_
  · have e : 64 < n := by have := gt_t e; omega
    rw [if_pos (by omega)] at hps
    refine cl_i (unwritten_any w) ?_
    rintro e' w1 ⟨v, rfl, hv, h1⟩
    refine ⟨v, rfl, h1, ?_⟩
    rw [hps]
    exact ⟨v, rfl, hv⟩
  have e : n ≤ 64 := by have := gt_f e; omega
  rw [if_neg (by omega)] at hps
  refine nw fun w1 h1 z1 b1 => ?_
  have B1 : Bld w.heap.size w1 w.heap.size none 0 0 [] := ⟨⟨none, .inl rfl, b1⟩, Row.nil _ _ _ _, Nat.le_refl _⟩
  generalize hb : w.heap.size = b at *
  refine loop_i mixed m18_3 s18_3 (by kernel_rfl) (by kernel_rfl)
    (fun (v : Int × Unit) w' => ∃ i : Nat, v.1 = i ∧ i ≤ n ∧ ∃ q m d bs, Bld b w' b q m d bs ∧ Ch (b ≤ ·) w1 w' ∧ bs.length ≤ i * 10000 ∧ recsTxt l = (recsTxt (l.drop i)).map (bs ++ ·)) (fun (v : Int × Unit) _ => n - v.1.toNat) (0, ()) rfl ⟨0, rfl, by omega, none, 0, 0, [], B1, Ch.refl _ _, by simp, by simp⟩ ?_
  rintro ⟨_, ⟨⟩⟩ g w2 ⟨i, rfl, hi, q, m, d, bs, B2, h2, hbl, hp⟩
  rw [t18_3]
  have H2 : Ch No w w2 := h1.then_ h2 (fun k hk h => by omega)
  refine br_both (fun e => ?_) fun e => ?_
  · have hin : i < n := by have := lt_t e; omega
    obtain ⟨r, hr⟩ : ∃ u, l[i]? = some u := ⟨_, List.getElem?_eq_getElem (by omega)⟩
    obtain ⟨hlt, hre⟩ := List.getElem?_eq_some_iff.1 hr
    have hdr : l.drop i = r :: l.drop (i + 1) := by rw [List.drop_eq_getElem_cons hlt, hre]
    rw [hdr, recsTxt_cons] at hp
    have hfr := hf r (List.mem_of_getElem? hr)
    obtain ⟨ad, rfl, hc⟩ := ha.2 (by omega)
    obtain ⟨vq, vn, vc, kp, kn, kc, c0, cv, c5, hI, hK⟩ := hc i r hr
    obtain ⟨c1, c2, c3, c4⟩ := add_add6 cv
    have rd : ∀ {a : Addr} {v : Value}, w.cell? a = some v → w2.cell? a = some v := fun h => H2.cellv h (fun h => h)
    refine ix_i (by omega) (by omega) ?_
    rw [Int.toNat_natCast]
    refine ld_str (rd c0) (ld_int (rd c1) (ld_int (rd c2) (ld_str (rd c3) (ld_sl (rd c4) (ld_sl (rd c5) ?_)))))
    refine nw fun w3 h3 z3 b3 => st_blk b3 (by simp) rfl fun w4 h4 z4 b4 => st_blk b4 (by simp) rfl fun w5 h5 z5 b5 => st_blk b5 (by simp) rfl fun w6 h6 z6 b6 => st_blk b6 (by simp) rfl fun w7 h7 z7 b7 => st_blk b7 (by simp) rfl fun w8 h8 z8 b8 => st_blk b8 (by simp) rfl fun w9 h9 z9 b9 => ?_
    have h29 : Ch No w2 w9 := h3.then_ (h4.trans (h5.trans (h6.trans (h7.trans (h8.trans h9))))) (fun k hk (h : k = _) => by omega)
    generalize w2.heap.size = nr at *
    have B9 := B2.no h29
    have H9 := H2.trans h29
    replace b9 : Blk w9 nr [.string r.key, .int .i64 r.val.kind, .int .i64 r.val.int, .string r.val.text, .slice vq vn vc, .slice kp kn kc] 54 := b9
    refine cut_i mixed s18_12 (fun (v : Bool × Unit) w' => Ch No w9 w' ∧ v.1 = decide (checkRec r ≠ 0 ∨ 0 < r.loops.length)) (by kernel_rfl) (fun g => ?_) ?_
    · rw [t18_12]
      refine ld_str (b9.cell 0) (ld_int (b9.cell 1) (ld_int (b9.cell 2) (ld_str (b9.cell 3) (ld_sl (b9.cell 4) (ld_sl (b9.cell 5) ?_)))))
      refine cl_i (crec_any r vq vn vc kp kn kc w9 (hI.no H9) (hK.no H9)) ?_
      rintro e' w10 ⟨rfl, h10⟩
      refine ⟨_, rfl, br_both (fun e => ?_) fun e => ?_⟩
      · exact ⟨rfl, (true, ()), rfl, h10, (decide_eq_true (.inl (ne_t e))).symm⟩
      · refine ld_sl ((b9.ch h10 (fun h => h)).cell 5) ⟨rfl, (decide ((kn : Int) > 0), ()), rfl, h10, ?_⟩
        have e := ne_f e
        have hkl := hK.1
        dsimp only
        rw [decide_eq_decide]
        exact ⟨fun h => .inr (by omega), fun h => by
          rcases h with h | h
          · exact absurd e h
          · omega⟩
    rintro ⟨u, ⟨⟩⟩ g w10 ⟨h10, hu⟩
    dsimp only at hu
    subst hu
    have H10 := H9.trans h10
    have B10 := B9.no h10
    refine br_both (fun e => ?_) fun e => ?_
    · have e := of_decide_eq_true e
      refine cl_i (unwritten_any w10) ?_
      rintro e' w11 ⟨v, rfl, hv, h11⟩
      refine ⟨v, rfl, (bytesL [], v, ()), rfl, fun g => ⟨H10.trans h11, ?_⟩⟩
      have hp : recsTxt l = none := by
        rw [hp]
        by_cases h1 : checkRec r ≠ 0
        · rw [if_pos h1]; rfl
        · rw [if_neg h1, if_pos (e.resolve_left h1)]; rfl
      rw [hps, hp]
      exact ⟨v, rfl, hv⟩
    have e := of_decide_eq_false e
    have hck : checkRec r = 0 := Decidable.byContradiction fun h => e (.inl h)
    rw [if_neg (fun h => h hck), if_neg (fun h => e (.inr h))] at hp
    obtain ⟨hk12, hv0⟩ := check_rec hck
    have kf : Fit (keyV r.key) := keyV_fit (by omega)
    have tl1 := txt_len _ kf
    have tl2 := txt_len _ hfr
    have hd := (Ch.refl No w10).drew
    have b10 := (b9.ch h10 (fun h => h)).ch hd (fun h => h)
    have B11 := B10.no hd
    have H11 := H10.trans hd
    have h211 : Ch No w2 w10.drew := (h29.trans h10).trans hd
    refine hd_i (fun w' => Blk w' nr [.string r.key, .int .i64 r.val.kind, .int .i64 r.val.int, .string r.val.text, .slice vq vn vc, .slice kp kn kc] 54) b10 ?_
    generalize w10.drew = w11 at *
    refine lh_str (x := r.key) (fun w' h => h.cell 0) (lh_int (x := r.val.kind) (fun w' h => h.cell 1) (lh_int (x := r.val.int) (fun w' h => h.cell 2) (lh_str (x := r.val.text) (fun w' h => h.cell 3) (lh_sl (p := vq) (n := vn) (c := vc) (fun w' h => h.cell 4) (eff_i ?_)))))
    refine cl_i (Print_any (keyV r.key) none 0 0 w11 ⟨Nat.le_refl _, by omega, by rw [RIt_def]; exact ⟨rfl, fun h => by omega⟩⟩ kf (tb.no H11) (by have := H11.size; omega)) ?_
    rintro e' w12 ⟨rfl, h12⟩
    refine ⟨_, rfl, bk (b10.ch h12 (fun h => h)) ?_⟩
    have hz1 : (⟨(printTxt (keyV r.key)).toArray⟩ : ByteArray).size = (printTxt (keyV r.key)).length := tb_size _
    refine nd_i (decide_eq_true (by simp only [ByteArray.size_append, tb_size, List.length_cons, List.length_nil]; omega)) (eff_i ?_)
    refine cl_i (Print_any r.val vq vn vc w12 (hI.no (H11.trans h12)) hfr (tb.no (H11.trans h12)) (by have := H11.size; have := h12.size; omega)) ?_
    rintro e' w13 ⟨rfl, h13⟩
    refine ⟨_, rfl, bk ((b10.ch h12 (fun h => h)).ch h13 (fun h => h)) ?_⟩
    have hz2 : (⟨(printTxt r.val).toArray⟩ : ByteArray).size = (printTxt r.val).length := tb_size _
    have hz3 : (⟨(printTxt (keyV r.key)).toArray⟩ ++ bytesL [32] : ByteArray).size = (printTxt (keyV r.key)).length + 1 := by rw [ByteArray.size_append, hz1]; rfl
    have hz4 : (⟨(printTxt (keyV r.key)).toArray⟩ ++ bytesL [32] ++ ⟨(printTxt r.val).toArray⟩ : ByteArray).size = (printTxt (keyV r.key)).length + 1 + (printTxt r.val).length := by rw [ByteArray.size_append, hz3, hz2]
    have hz5 : (⟨(printTxt (keyV r.key)).toArray⟩ ++ bytesL [32] ++ ⟨(printTxt r.val).toArray⟩ ++ bytesL [10] : ByteArray).size = (printTxt (keyV r.key)).length + 1 + (printTxt r.val).length + 1 := by rw [ByteArray.size_append, hz4]; rfl
    refine nd_i (decide_eq_true (by simp only [ByteArray.size_append, tb_size, List.length_cons, List.length_nil]; omega)) (nd_i (decide_eq_true (by simp only [ByteArray.size_append, tb_size, List.length_cons, List.length_nil]; omega)) (eff_i ?_))
    have h1213 := h12.trans h13
    have B13 := B11.no h1213
    have hbl13 := B13.len
    refine cl_i (writeString_any b b w13 q m d bs _ B13 (by have := H11.size; have := h1213.size; omega) (by rw [hz5]; omega)) ?_
    rintro e' w14 ⟨rfl, q', m', d', g14⟩
    refine ⟨(_, .nilIface, ()), rfl, ?_⟩
    have b13 := b10.ch h1213 (fun h => h)
    have b14 : Blk w14 nr _ _ := b13.ch g14.ch (fun h => by
      rcases h with h | h
      · subst h
        obtain ⟨a, _, hbb⟩ := B13.blk
        have h1 : some (Obj.cells _ _ (0, 0)) = some _ := b13.symm.trans hbb
        simp at h1
      · exact B13.row.ne b13 (by decide) h)
    refine bk b14 (un_h ?_)
    have hw : IntKind.i64.wrap ((i : Int) + 1) = ((i + 1 : Nat) : Int) := wrap_succ (by omega) (by omega)
    rw [hw]
    have hcat : (⟨(printTxt (keyV r.key)).toArray⟩ ++ bytesL [32] ++ ⟨(printTxt r.val).toArray⟩ ++ bytesL [10] : ByteArray).data.toList = recTxt r := by
      simp only [ba_app, tb_data]
      unfold recTxt
      simp
    have B14 := g14.bld
    rw [hcat] at B14
    refine ⟨(((i + 1 : Nat) : Int), ()), rfl, ⟨i + 1, rfl, by omega, q', m', d', _, B14, ?_, ?_, ?_⟩, by dsimp only; omega⟩
    · exact (h2.trans (h211.trans h1213).no).trans (g14.below B13)
    · have : (recTxt r).length = (printTxt (keyV r.key)).length + 1 + (printTxt r.val).length + 1 := by rw [← hcat]; exact hz5
      rw [List.length_append, this]
      omega
    · rw [hp]
      cases recsTxt (l.drop (i + 1)) with
      | none => rfl
      | some u => simp
  · have hin : i = n := by have := lt_f e; omega
    rw [List.drop_of_length_le (by omega)] at hp
    have hp : recsTxt l = some bs := by rw [hp]; simp [recsTxt]
    rw [hp] at hps
    refine ⟨rfl, (), rfl, fun g => ?_⟩
    refine cl_i (Tryz.Builder_Len b b _ w2 B2.lib) ?_
    rintro e' w3 ⟨rfl, rfl⟩
    refine ⟨_, rfl, ?_⟩
    rw [Lib.byteCells_length]
    refine br_both (fun e => ?_) fun e => ?_
    · have e : 4000 < bs.length := by have := gt_t e; omega
      refine cl_i (unwritten_any w3) ?_
      rintro e5 w5 ⟨v, rfl, hv, h5⟩
      refine ⟨v, rfl, H2.trans h5, ?_⟩
      rw [hps]
      dsimp only
      rw [if_pos e]
      exact ⟨v, rfl, hv⟩
    · have e : bs.length ≤ 4000 := by have := gt_f e; omega
      refine cl_i (Tryz.Builder_String_any b b bs w3 B2.lib (by have := H2.size; omega)) ?_
      rintro e5 w5 ⟨rfl, hb5⟩
      have h5 : Ch (b ≤ ·) w3 w5 := ⟨hb5.os, hb5.tape, hb5.output, hb5.size, fun k hk hn => hb5.block k (by omega)⟩
      refine ⟨_, rfl, H2.then_ h5 (fun k hk h => by omega), ?_⟩
      rw [hps]
      dsimp only
      rw [if_neg (by omega)]
/-! ### Compared -/
theorem sval_any (k : Nat) : ∀ (x : VT) (p : Option Addr) (m c : Nat) (q : Option Addr) (m' c' : Nat) (w : World), SizeOf.sizeOf x < k → IsV w x p m c → IsV w x q m' c' →
    Calls Tryz.prog 49 #[valV x p m c, valV x q m' c'] w fun e w' => e = .returned (.bool true) ∧ Ch No w w' := by
  induction k with
  | zero => intro x p m c q m' c' w h; omega
  | succ k ih =>
    intro x p m c q m' c' w hk hx hy
    refine calls_of_fnT mixed Tryz.func49 (s := s49) ?_
    unfold valV
    rw [t49]
    refine nw fun w1 h1 z1 (b1 : Blk w1 _ (cellsV x p m c) 52) => ?_
    refine nw fun w2 h2 z2 (b2 : Blk w2 _ (cellsV x q m' c') 52) => ?_
    have B1 := b1.ch h2 (fun h => h)
    have H := h1.trans h2
    have hxl := RIt_len hx.its
    have hyl := RIt_len hy.its
    obtain rfl : m = m' := by omega
    refine cut_i mixed s49_3 (fun (v : Bool × Unit) w' => v.1 = false ∧ w' = w2) (by kernel_rfl) (fun g => ?_) ?_
    · rw [t49_3]
      refine ld_int (B1.cell 0) (ld_int (b2.cell 0) (br_false (by simp) ?_))
      refine ld_int (B1.cell 1) (ld_int (b2.cell 1) (br_false (by simp) ?_))
      refine ld_str (B1.cell 2) (ld_str (b2.cell 2) (br_false (by simp) ?_))
      refine ld_sl (B1.cell 3) (ld_sl (b2.cell 3) ⟨rfl, (_, ()), rfl, by simp, rfl⟩)
    rintro ⟨v, ⟨⟩⟩ g w3 ⟨hv, rfl⟩
    dsimp only at hv
    subst hv
    refine br_false rfl ?_
    refine loop_i mixed m49_13 s49_13 (by kernel_rfl) (by kernel_rfl)
      (fun (v : Int × Unit) w' => ∃ i : Nat, v.1 = i ∧ i ≤ m ∧ Ch No w3 w') (fun (v : Int × Unit) _ => m - v.1.toNat) (0, ()) rfl ⟨0, rfl, by omega, Ch.refl _ _⟩ ?_
    rintro ⟨_, ⟨⟩⟩ g w' ⟨i, rfl, i1, hw⟩
    rw [t49_13]
    have C1 := B1.ch hw (fun h => h)
    have C2 := b2.ch hw (fun h => h)
    refine ld_sl (C1.cell 3) ?_
    dsimp only
    refine br_both (fun e => ?_) (fun e => ?_)
    · have hi : i < m := by have := lt_t e; omega
      have hc := hx.cap
      have hb := hx.big
      obtain ⟨xi, hxi⟩ : ∃ u, x.items[i]? = some u := ⟨_, List.getElem?_eq_getElem (by omega)⟩
      obtain ⟨ad, pi, mi, ci, rfl, cx, vx⟩ := hx.get hxi
      obtain ⟨bd, qi, ni, di, rfl, cy, vy⟩ := hy.get hxi
      have hB : ∀ w'', Ch No w' w'' → Ch No w w'' := fun w'' h => (H.trans hw).trans h
      refine ⟨fun w'' => Ch No w' w'', (Ch.refl _ _).drew, ?_⟩
      refine ⟨(some ad, m, c), fun w'' h => (C1.ch h (fun h => h)).cell 3, ⟨ad, rfl, by omega, by dsimp only; omega, ?_⟩⟩
      refine ⟨xi.kind, fun w'' h => (hB w'' h).cellv cx.c0 (fun h => h), xi.int, fun w'' h => (hB w'' h).cellv cx.c1 (fun h => h), xi.text, fun w'' h => (hB w'' h).cellv cx.c2 (fun h => h), (pi, mi, ci), fun w'' h => (hB w'' h).cellv cx.c3 (fun h => h), ?_⟩
      refine ⟨(some bd, m, c'), fun w'' h => (C2.ch h (fun h => h)).cell 3, ⟨bd, rfl, by omega, by dsimp only; omega, ?_⟩⟩
      refine ⟨xi.kind, fun w'' h => (hB w'' h).cellv cy.c0 (fun h => h), xi.int, fun w'' h => (hB w'' h).cellv cy.c1 (fun h => h), xi.text, fun w'' h => (hB w'' h).cellv cy.c2 (fun h => h), (qi, ni, di), fun w'' h => (hB w'' h).cellv cy.c3 (fun h => h), ?_⟩
      have hsz := VT.size_lt hxi
      refine ⟨true, fun w'' h => (ih xi pi mi ci qi ni di w'' (by omega) (vx.no (hB w'' h)) (vy.no (hB w'' h))).mono fun e w3 ⟨he, h3⟩ => ⟨he, h.trans h3⟩, ?_⟩
      intro w4 h4
      have hw1 : IntKind.i64.wrap ((i : Int) + 1) = ((i + 1 : Nat) : Int) := wrap_succ (by omega) (by omega)
      rw [hw1]
      refine br_false rfl ⟨(((i + 1 : Nat) : Int), ()), rfl, ⟨i + 1, rfl, by omega, hw.trans h4⟩, by dsimp only; omega⟩
    · refine ⟨rfl, (), rfl, fun g => ⟨rfl, H.trans hw⟩⟩
theorem stape_any (w : World) (p q : Option Addr) (n m c d : Nat) (l : List RecM) (ha : AtT w p n l) (hb : AtT w q m l) (hl : n ≤ 4611686018427387904) (hk : ∀ r ∈ l, r.loops.length ≤ 2000000) :
    Calls Tryz.prog 16 #[.slice p n c, .slice q m d] w fun e w' => e = .returned (.bool true) ∧ Ch No w w' := by
  refine calls_of_fnT mixed Tryz.func16 (s := s16) ?_
  rw [t16]
  have h1 := ha.1
  have h2 := hb.1
  obtain rfl : n = m := by omega
  refine br_false (by simp) ?_
  refine loop_i mixed m16_1 s16_1 (by kernel_rfl) (by kernel_rfl)
    (fun (v : Int × Unit) w' => ∃ i : Nat, v.1 = i ∧ i ≤ n ∧ Ch No w w') (fun (v : Int × Unit) _ => n - v.1.toNat) (0, ()) rfl ⟨0, rfl, by omega, Ch.refl _ _⟩ ?_
  rintro ⟨_, ⟨⟩⟩ g w1 ⟨i, rfl, i1, hw⟩
  rw [t16_1]
  refine br_both (fun e => ?_) (fun e => ?_)
  · have hi : i < n := by have := lt_t e; omega
    obtain ⟨r, hr⟩ : ∃ u, l[i]? = some u := ⟨_, List.getElem?_eq_getElem (by omega)⟩
    have hkr := hk r (List.mem_of_getElem? hr)
    obtain ⟨ad, rfl, hc⟩ := ha.2 (by omega)
    obtain ⟨bd, rfl, hc'⟩ := hb.2 (by omega)
    obtain ⟨vq, vn, vc, kp, kn, kc, c0, cv, c5, hI, hK⟩ := hc i r hr
    obtain ⟨vq', vn', vc', kp', kn', kc', c0', cv', c5', hI', hK'⟩ := hc' i r hr
    have hB : ∀ {w'' : World}, Ch No w1 w'' → Ch No w w'' := fun h => hw.trans h
    have ix : ∀ {a : Addr} {f : Addr → T} {w'' : World} {C : World → Prop} {R : Ending → World → Prop} {Q : Exit → List (Tmp × Value) → World → Prop}, wpT Tryz.prog R Q (f (a.add (i * 6))) (.qu C) w'' → wpT Tryz.prog R Q (.idx (some a) (i : Int) n 6 f) (.qu C) w'' := fun h => ix_i (by omega) (by omega) (by rw [Int.toNat_natCast]; exact h)
    refine ⟨fun w'' => Ch No w1 w'', (Ch.refl _ _).drew, ix ⟨_, fun w'' h => (hB h).cellv c0 (fun h => h), ix ⟨_, fun w'' h => (hB h).cellv c0' (fun h => h), br_false (by simp) (ix ?_)⟩⟩⟩
    refine ⟨_, fun w'' h => (hB h).cellv cv.c0 (fun h => h), _, fun w'' h => (hB h).cellv cv.c1 (fun h => h), _, fun w'' h => (hB h).cellv cv.c2 (fun h => h), (vq, vn, vc), fun w'' h => (hB h).cellv cv.c3 (fun h => h), ix ?_⟩
    refine ⟨_, fun w'' h => (hB h).cellv cv'.c0 (fun h => h), _, fun w'' h => (hB h).cellv cv'.c1 (fun h => h), _, fun w'' h => (hB h).cellv cv'.c2 (fun h => h), (vq', vn', vc'), fun w'' h => (hB h).cellv cv'.c3 (fun h => h), ?_⟩
    refine ⟨true, fun w'' h => (sval_any _ r.val vq vn vc vq' vn' vc' w'' (Nat.lt_succ_self _) (hI.no (hB h)) (hI'.no (hB h))).mono fun e w3 ⟨he, h3⟩ => ⟨he, h.trans h3⟩, br_false rfl (ix ?_)⟩
    refine ⟨(kp, kn, kc), fun w'' h => (hB h).cellv c5 (fun h => h), ix ⟨(kp', kn', kc'), fun w'' h => (hB h).cellv c5' (fun h => h), ?_⟩⟩
    refine ⟨true, fun w'' h => (sameInts_up w'' kp kp' kn kn' kc kc' r.loops (hK.no (hB h)) (hK'.no (hB h)) (by have := hK.1; omega)).mono fun e w3 ⟨he, h3⟩ => ⟨he, h.trans h3⟩, ?_⟩
    intro w4 h4
    have hw1 : IntKind.i64.wrap ((i : Int) + 1) = ((i + 1 : Nat) : Int) := wrap_succ (by omega) (by omega)
    rw [hw1]
    refine br_false rfl ⟨(((i + 1 : Nat) : Int), ()), rfl, ⟨i + 1, rfl, by omega, hw.trans h4⟩, by dsimp only; omega⟩
  · exact ⟨rfl, (), rfl, fun g => ⟨rfl, hw⟩⟩
end Go.Proofs.YtjlmkahagcojcaaGreatDoor.V
