/- The document's answer: runes, quoted texts, decimal numerals: the walks. -/
import Derived.Test.YtjlmkahagcojcaaGreatDoorXb
namespace Go.Proofs.YtjlmkahagcojcaaGreatDoor.V
open Go Tr
open Go.Lib (decodeL)
set_option maxRecDepth 100000
/-! the tree of function 143 -/
abbrev fx143_2 (qs0 : ByteArray) (qx1 : Int) (c1 : Int) : List (Tmp × Value) := [(0, .string qs0), (1, .int .i64 qx1), (6, .int .i64 (IntKind.i64.wrap c1))]
abbrev L143_2 : List (Tmp × Value) := [(7, .int .i64 0), (8, .int .i64 0), (9, .int .i64 0)]
abbrev mx143_2 : List (Tmp × Comp) := [(7, .leaf (.int .i64)), (8, .leaf (.int .i64)), (9, .leaf (.int .i64))]
abbrev mr143_2 : List (Tmp × Comp) := []
abbrev fx143_3 (qs0 : ByteArray) (qx1 : Int) (c1 : Int) : List (Tmp × Value) := [(0, .string qs0), (1, .int .i64 qx1), (6, .int .i64 (IntKind.i64.wrap c1)), (7, .int .i64 0), (8, .int .i64 0), (9, .int .i64 0)]
abbrev mx143_3 : List (Tmp × Comp) := [(16, .leaf .bool)]
def s143_3 : Script := .sym (.lit (.lit .nil)) (.lit (.lit .nil))
theorem t143_3 (qs0 : ByteArray) (qx1 : Int) (c1 : Int) (gg3 : Nat → Value) : pieceT Tryz.prog (at_ Tryz.f143 [1, 1, 1, 0, 0, 0]) 92 (fx143_3 qs0 qx1 c1) gg3 (mx143_3.map (·.1)) [] [] s143_3 = .br (Decidable.decide (IntKind.i64.wrap c1 ≥ 192)) (.fin .normal [(16, .bool (Decidable.decide (IntKind.i64.wrap c1 < 224)))]) (.fin .normal [(16, .bool false)]) := by kernel_rfl
abbrev fx143_5 (qs0 : ByteArray) (qx1 : Int) (c1 : Int) : List (Tmp × Value) := [(0, .string qs0), (1, .int .i64 qx1), (6, .int .i64 (IntKind.i64.wrap c1)), (7, .int .i64 0), (8, .int .i64 0), (9, .int .i64 0)]
abbrev mx143_5 : List (Tmp × Comp) := [(25, .leaf .bool)]
def s143_5 : Script := .sym (.lit (.lit .nil)) (.lit (.lit .nil))
theorem t143_5 (qs0 : ByteArray) (qx1 : Int) (c1 : Int) (gg5 : Nat → Value) : pieceT Tryz.prog (at_ Tryz.f143 [1, 1, 1, 0, 0, 1, 1, 0]) 92 (fx143_5 qs0 qx1 c1) gg5 (mx143_5.map (·.1)) [] [] s143_5 = .br (Decidable.decide (IntKind.i64.wrap c1 ≥ 224)) (.fin .normal [(25, .bool (Decidable.decide (IntKind.i64.wrap c1 < 240)))]) (.fin .normal [(25, .bool false)]) := by kernel_rfl
def s143_2 : Script := .ct 0 [0, 1, 6, 7, 8, 9] mx143_3 (.sym .nil (.ct 0 [0, 1, 6, 7, 8, 9] mx143_5 (.sym .nil (.sym (.lit (.lit (.sym .nil .nil))) (.lit (.lit (.lit .nil)))))))
theorem t143_2 (qs0 : ByteArray) (qx1 : Int) (c1 : Int) (gg2 : Nat → Value) : pieceT Tryz.prog (at_ Tryz.f143 [1, 1, 1, 0]) 92 (fx143_2 qs0 qx1 c1 ++ L143_2) gg2 (mx143_2.map (·.1)) [] (mr143_2.map (·.1)) s143_2 = .cut (at_ Tryz.f143 [1, 1, 1, 0, 0, 0]) 92 (fx143_3 qs0 qx1 c1) mx143_3 (fun u4 g4 => .br u4.1 (.fin .normal [(7, .int .i64 2), (8, .int .i64 (IntKind.i64.wrap (IntKind.i64.wrap c1 - 192))), (9, .int .i64 128)]) (.cut (at_ Tryz.f143 [1, 1, 1, 0, 0, 1, 1, 0]) 92 (fx143_5 qs0 qx1 c1) mx143_5 (fun u6 g6 => .br u6.1 (.fin .normal [(7, .int .i64 3), (8, .int .i64 (IntKind.i64.wrap (IntKind.i64.wrap c1 - 224))), (9, .int .i64 2048)]) (.br (Decidable.decide (IntKind.i64.wrap c1 ≥ 240)) (.br (Decidable.decide (IntKind.i64.wrap c1 < 248)) (.fin .normal [(7, .int .i64 4), (8, .int .i64 (IntKind.i64.wrap (IntKind.i64.wrap c1 - 240))), (9, .int .i64 65536)]) (.fin .normal [(7, .int .i64 0), (8, .int .i64 0), (9, .int .i64 0)])) (.fin .normal [(7, .int .i64 0), (8, .int .i64 0), (9, .int .i64 0)]))))) := by kernel_rfl
abbrev fx143_8 (qs0 : ByteArray) (qx1 : Int) (u7 : Int × Int × Int × Unit) : List (Tmp × Value) := [(0, .string qs0), (1, .int .i64 qx1), (7, .int .i64 u7.1), (8, .int .i64 u7.2.1), (9, .int .i64 u7.2.2.1)]
abbrev L143_8 : List (Tmp × Value) := []
abbrev mx143_8 : List (Tmp × Comp) := []
abbrev mr143_8 : List (Tmp × Comp) := [(4, .leaf (.int .i64)), (5, .leaf (.int .i64))]
def s143_8 : Script := .sym (.lit (.lit (.lit (.lit (.lit (.lit (.lit .nil))))))) (.lit (.lit (.lit (.lit (.lit (.lit (.sym .nil .nil)))))))
theorem t143_8 (qs0 : ByteArray) (qx1 : Int) (u7 : Int × Int × Int × Unit) (gg8 : Nat → Value) : pieceT Tryz.prog (at_ Tryz.f143 [1, 1, 1, 1, 0]) 92 (fx143_8 qs0 qx1 u7 ++ L143_8) gg8 (mx143_8.map (·.1)) [] (mr143_8.map (·.1)) s143_8 = .br (u7.fst == 0) (.fin .ret [(4, .int .i64 0), (5, .int .i64 0)]) (.br (Decidable.decide (IntKind.i64.wrap (qx1 + u7.fst) > (↑qs0.size : Int))) (.fin .ret [(4, .int .i64 0), (5, .int .i64 0)]) (.fin .normal [])) := by kernel_rfl
abbrev fx143_10 (qs0 : ByteArray) (qx1 : Int) (u7 : Int × Int × Int × Unit) : List (Tmp × Value) := [(0, .string qs0), (1, .int .i64 qx1), (7, .int .i64 u7.1), (9, .int .i64 u7.2.2.1)]
abbrev L143_10 (u7 : Int × Int × Int × Unit) : List (Tmp × Value) := [(8, .int .i64 u7.2.1)]
abbrev mx143_10 : List (Tmp × Comp) := [(8, .leaf (.int .i64))]
abbrev mr143_10 : List (Tmp × Comp) := [(4, .leaf (.int .i64)), (5, .leaf (.int .i64))]
abbrev fx143_11 (qs0 : ByteArray) (qx1 : Int) (u7 : Int × Int × Int × Unit) : List (Tmp × Value) := [(0, .string qs0), (1, .int .i64 qx1), (7, .int .i64 u7.1), (9, .int .i64 u7.2.2.1)]
abbrev m143_11 : List (Tmp × Comp) := [(8, .leaf (.int .i64)), (10, .leaf (.int .i64))]
abbrev mx143_11 : List (Tmp × Comp) := [(8, .leaf (.int .i64))]
abbrev mr143_11 : List (Tmp × Comp) := [(4, .leaf (.int .i64)), (5, .leaf (.int .i64))]
abbrev fx143_13 (qs0 : ByteArray) (qx1 : Int) (u7 : Int × Int × Int × Unit) (x_8 : Int) (x_10 : Int) (c12 : Int) : List (Tmp × Value) := [(0, .string qs0), (1, .int .i64 qx1), (7, .int .i64 u7.1), (8, .int .i64 x_8), (9, .int .i64 u7.2.2.1), (10, .int .i64 x_10), (11, .int .i64 (IntKind.i64.wrap c12))]
abbrev L143_13 : List (Tmp × Value) := []
abbrev mx143_13 : List (Tmp × Comp) := []
abbrev mr143_13 : List (Tmp × Comp) := [(4, .leaf (.int .i64)), (5, .leaf (.int .i64))]
def s143_13 : Script := .sym (.lit (.lit (.lit .nil))) (.lit (.lit (.sym .nil .nil)))
theorem t143_13 (qs0 : ByteArray) (qx1 : Int) (u7 : Int × Int × Int × Unit) (x_8 : Int) (x_10 : Int) (c12 : Int) (gg13 : Nat → Value) : pieceT Tryz.prog (at_ Tryz.f143 [1, 1, 1, 1, 1, 0, 1, 0, 0, 1, 0, 0, 1, 0]) 92 (fx143_13 qs0 qx1 u7 x_8 x_10 c12 ++ L143_13) gg13 (mx143_13.map (·.1)) [] (mr143_13.map (·.1)) s143_13 = .br (Decidable.decide (IntKind.i64.wrap c12 < 128)) (.fin .ret [(4, .int .i64 0), (5, .int .i64 0)]) (.br (Decidable.decide (IntKind.i64.wrap c12 ≥ 192)) (.fin .ret [(4, .int .i64 0), (5, .int .i64 0)]) (.fin .normal [])) := by kernel_rfl
def s143_11 : Script := .sym (.ix (.cr 0 [0, 1, 7, 8, 9, 10, 11] [] mx143_13 mr143_13 .nil .nil)) .nil
theorem t143_11 (qs0 : ByteArray) (qx1 : Int) (u7 : Int × Int × Int × Unit) (x_8 : Int) (x_10 : Int) (gg11 : Nat → Value) : pieceT Tryz.prog (at_ Tryz.f143 [1, 1, 1, 1, 1, 0, 1, 0, 0]) 92 (fx143_11 qs0 qx1 u7 ++ mvals m143_11 (x_8, x_10, ())) gg11 (m143_11.map (·.1)) (mx143_11.map (·.1)) (mr143_11.map (·.1)) s143_11 = .br (Decidable.decide (x_10 < u7.fst)) (.bidx qs0 (IntKind.i64.wrap (qx1 + x_10)) (fun c12 => .cutr (at_ Tryz.f143 [1, 1, 1, 1, 1, 0, 1, 0, 0, 1, 0, 0, 1, 0]) 92 (fx143_13 qs0 qx1 u7 x_8 x_10 c12) L143_13 mx143_13 mr143_13 (fun u14 g14 => .fin .normal [(8, .int .i64 (IntKind.i64.wrap (IntKind.i64.wrap (IntKind.i64.wrap (x_8 * 64) + IntKind.i64.wrap c12) - 128))), (10, .int .i64 (IntKind.i64.wrap (x_10 + 1)))]) (fun u15 g15 => .fin .ret [(4, .int .i64 u15.1), (5, .int .i64 u15.2.1)]))) (.fin (.exit 1) [(8, .int .i64 x_8)]) := by kernel_rfl
def s143_10 : Script := .lp 1 [0, 1, 7, 9] [8, 10] mx143_11 mr143_11 .nil .nil
theorem t143_10 (qs0 : ByteArray) (qx1 : Int) (u7 : Int × Int × Int × Unit) (gg10 : Nat → Value) : pieceT Tryz.prog (at_ Tryz.f143 [1, 1, 1, 1, 1, 0]) 92 (fx143_10 qs0 qx1 u7 ++ L143_10 u7) gg10 (mx143_10.map (·.1)) [] (mr143_10.map (·.1)) s143_10 = .loop (at_ Tryz.f143 [1, 1, 1, 1, 1, 0, 1, 0, 0]) 92 (fx143_11 qs0 qx1 u7) [(8, .int .i64 u7.2.1), (10, .int .i64 1)] mx143_11 mr143_11 1 (fun u16 g16 => .fin .normal [(8, .int .i64 u16.1)]) (fun u17 g17 => .fin .ret [(4, .int .i64 u17.1), (5, .int .i64 u17.2.1)]) := by kernel_rfl
def s143 : Script := .ix (.cr 1 [0, 1, 6] [7, 8, 9] mx143_2 mr143_2 (.cr 0 [0, 1, 7, 8, 9] [] mx143_8 mr143_8 (.cr 0 [0, 1, 7, 9] [8] mx143_10 mr143_10 (.sym (.lit (.lit (.lit (.lit (.lit (.lit (.lit (.lit .nil)))))))) (.lit (.lit (.sym (.lit (.lit (.lit (.lit (.lit .nil))))) (.lit (.lit (.sym (.lit (.lit (.lit (.lit (.sym .nil .nil))))) (.lit (.lit (.lit (.lit (.lit .nil)))))))))))) .nil) .nil) .nil)
theorem t143 (qs0 : ByteArray) (qx1 : Int) : fnT Tryz.prog Tryz.f143 #[.string qs0, .int .i64 qx1] s143 = .bidx qs0 qx1 (fun c1 => .cutr (at_ Tryz.f143 [1, 1, 1, 0]) 92 (fx143_2 qs0 qx1 c1) L143_2 mx143_2 mr143_2 (fun u7 g7 => .cutr (at_ Tryz.f143 [1, 1, 1, 1, 0]) 92 (fx143_8 qs0 qx1 u7) L143_8 mx143_8 mr143_8 (fun u9 g9 => .cutr (at_ Tryz.f143 [1, 1, 1, 1, 1, 0]) 92 (fx143_10 qs0 qx1 u7) (L143_10 u7) mx143_10 mr143_10 (fun u18 g18 => .br (Decidable.decide (u18.fst < u7.snd.snd.fst)) (.done (.returned (.tuple #[.int .i64 0, .int .i64 0]))) (.br (Decidable.decide (u18.fst > 1114111)) (.done (.returned (.tuple #[.int .i64 0, .int .i64 0]))) (.br (Decidable.decide (u18.fst ≥ 55296)) (.br (Decidable.decide (u18.fst < 57344)) (.done (.returned (.tuple #[.int .i64 0, .int .i64 0]))) (.done (.returned (.tuple #[.int .i64 u18.1, .int .i64 u7.1])))) (.done (.returned (.tuple #[.int .i64 u18.1, .int .i64 u7.1])))))) (fun u19 g19 => .done (.returned (.tuple #[.int .i64 u19.1, .int .i64 u19.2.1])))) (fun u20 g20 => .done (.returned (.tuple #[.int .i64 u20.1, .int .i64 u20.2.1])))) (fun u21 g21 => .stuck)) := by kernel_rfl
/-! the tree of function 122 -/
abbrev fx122_1 (qs0 : ByteArray) : List (Tmp × Value) := [(0, .string qs0), (2, .string (bytesL []))]
abbrev m122_1 : List (Tmp × Comp) := [(3, .leaf .str), (4, .leaf (.int .i64))]
abbrev mx122_1 : List (Tmp × Comp) := [(3, .leaf .str)]
abbrev mr122_1 : List (Tmp × Comp) := []
abbrev fx122_4 (qs0 : ByteArray) (s_3 : ByteArray) (x_4 : Int) (c2 : Int) (r3 : Int × Int × Unit) : List (Tmp × Value) := [(0, .string qs0), (3, .string s_3), (4, .int .i64 x_4), (5, .int .u8 c2), (6, .int .i64 r3.1), (7, .int .i64 r3.2.1)]
abbrev mx122_4 : List (Tmp × Comp) := [(39, .leaf .bool)]
def s122_4 : Script := .sym (.lit (.lit .nil)) (.lit (.lit .nil))
theorem t122_4 (qs0 : ByteArray) (s_3 : ByteArray) (x_4 : Int) (c2 : Int) (r3 : Int × Int × Unit) (gg4 : Nat → Value) : pieceT Tryz.prog (at_ Tryz.f122 [1, 1, 0, 1, 0, 0, 1, 0, 0, 1, 1, 0, 0]) 95 (fx122_4 qs0 s_3 x_4 c2 r3) gg4 (mx122_4.map (·.1)) [] [] s122_4 = .br (c2 == 34) (.fin .normal [(39, .bool true)]) (.fin .normal [(39, .bool (c2 == 92))]) := by kernel_rfl
abbrev fx122_6 (qs0 : ByteArray) (s_3 : ByteArray) (x_4 : Int) (c2 : Int) (r3 : Int × Int × Unit) : List (Tmp × Value) := [(0, .string qs0), (3, .string s_3), (4, .int .i64 x_4), (5, .int .u8 c2), (6, .int .i64 r3.1), (7, .int .i64 r3.2.1)]
abbrev mx122_6 : List (Tmp × Comp) := [(64, .leaf .bool)]
def s122_6 : Script := .sym (.lit (.lit .nil)) (.lit (.lit .nil))
theorem t122_6 (qs0 : ByteArray) (s_3 : ByteArray) (x_4 : Int) (c2 : Int) (r3 : Int × Int × Unit) (gg6 : Nat → Value) : pieceT Tryz.prog (at_ Tryz.f122 [1, 1, 0, 1, 0, 0, 1, 0, 0, 1, 1, 0, 1, 1, 1, 1, 1, 1, 0]) 95 (fx122_6 qs0 s_3 x_4 c2 r3) gg6 (mx122_6.map (·.1)) [] [] s122_6 = .br (Decidable.decide (c2 ≥ 32)) (.fin .normal [(64, .bool (Decidable.decide (c2 < 127)))]) (.fin .normal [(64, .bool false)]) := by kernel_rfl
def s122_1 : Script := .sym (.ix (.cl (.tup [.leaf (.int .i64), .leaf (.int .i64)]) (.ct 0 [0, 3, 4, 5, 6, 7] mx122_4 (.sym (.nd (.nop (.nop (.nop (.nop (.nd (.nd .nil))))))) (.sym (.nd .nil) (.sym (.nd .nil) (.ct 0 [0, 3, 4, 5, 6, 7] mx122_6 (.sym (.nop (.nop (.nop (.nop (.nop (.nd (.nd .nil))))))) (.sym (.nop (.nop (.nop (.nop (.nop (.nop (.nd (.nd .nil)))))))) (.qt (.nd (.nop (.nop (.nop (.nop (.nop (.nd (.nd (.nop (.nop (.nop (.nop (.nop (.nd (.nd .nil))))))))))))))))))))))))) .nil
theorem t122_1 (qs0 : ByteArray) (s_3 : ByteArray) (x_4 : Int) (gg1 : Nat → Value) : pieceT Tryz.prog (at_ Tryz.f122 [1, 1, 0, 1, 0, 0]) 95 (fx122_1 qs0 ++ mvals m122_1 (s_3, x_4, ())) gg1 (m122_1.map (·.1)) (mx122_1.map (·.1)) (mr122_1.map (·.1)) s122_1 = .br (Decidable.decide (x_4 < (↑qs0.size : Int))) (.bidx qs0 x_4 (fun c2 => .call 143 #[.string qs0, .int .i64 x_4] (.tup [.leaf (.int .i64), .leaf (.int .i64)]) (fun r3 => .cut (at_ Tryz.f122 [1, 1, 0, 1, 0, 0, 1, 0, 0, 1, 1, 0, 0]) 95 (fx122_4 qs0 s_3 x_4 c2 r3) mx122_4 (fun u5 g5 => .br u5.1 (.need (Decidable.decide (s_3.size + (bytesL [92]).size ≤ 9223372036854775807)) (.need (Decidable.decide (0 ≤ x_4 ∧ x_4 ≤ IntKind.i64.wrap (x_4 + 1) ∧ IntKind.i64.wrap (x_4 + 1) ≤ (↑qs0.size : Int))) (.need (Decidable.decide ((s_3 ++ bytesL [92]).size + (qs0.extract x_4.toNat (IntKind.i64.wrap (x_4 + 1)).toNat).size ≤ 9223372036854775807)) (.fin .normal [(3, .string (s_3 ++ bytesL [92] ++ qs0.extract x_4.toNat (IntKind.i64.wrap (x_4 + 1)).toNat)), (4, .int .i64 (IntKind.i64.wrap (x_4 + 1)))])))) (.br (c2 == 10) (.need (Decidable.decide (s_3.size + (bytesL [92, 110]).size ≤ 9223372036854775807)) (.fin .normal [(3, .string (s_3 ++ bytesL [92, 110])), (4, .int .i64 (IntKind.i64.wrap (x_4 + 1)))])) (.br (c2 == 9) (.need (Decidable.decide (s_3.size + (bytesL [92, 116]).size ≤ 9223372036854775807)) (.fin .normal [(3, .string (s_3 ++ bytesL [92, 116])), (4, .int .i64 (IntKind.i64.wrap (x_4 + 1)))])) (.cut (at_ Tryz.f122 [1, 1, 0, 1, 0, 0, 1, 0, 0, 1, 1, 0, 1, 1, 1, 1, 1, 1, 0]) 95 (fx122_6 qs0 s_3 x_4 c2 r3) mx122_6 (fun u7 g7 => .br u7.1 (.need (Decidable.decide (0 ≤ x_4 ∧ x_4 ≤ IntKind.i64.wrap (x_4 + 1) ∧ IntKind.i64.wrap (x_4 + 1) ≤ (↑qs0.size : Int))) (.need (Decidable.decide (s_3.size + (qs0.extract x_4.toNat (IntKind.i64.wrap (x_4 + 1)).toNat).size ≤ 9223372036854775807)) (.fin .normal [(3, .string (s_3 ++ qs0.extract x_4.toNat (IntKind.i64.wrap (x_4 + 1)).toNat)), (4, .int .i64 (IntKind.i64.wrap (x_4 + 1)))]))) (.br (Decidable.decide (r3.fst ≥ 160)) (.need (Decidable.decide (0 ≤ x_4 ∧ x_4 ≤ IntKind.i64.wrap (x_4 + r3.snd.fst) ∧ IntKind.i64.wrap (x_4 + r3.snd.fst) ≤ (↑qs0.size : Int))) (.need (Decidable.decide (s_3.size + (qs0.extract x_4.toNat (IntKind.i64.wrap (x_4 + r3.snd.fst)).toNat).size ≤ 9223372036854775807)) (.fin .normal [(3, .string (s_3 ++ qs0.extract x_4.toNat (IntKind.i64.wrap (x_4 + r3.snd.fst)).toNat)), (4, .int .i64 (IntKind.i64.wrap (IntKind.i64.wrap (IntKind.i64.wrap (x_4 + r3.snd.fst) - 1) + 1)))]))) (.drawn (.need (Decidable.decide (s_3.size + (bytesL [92, 120]).size ≤ 9223372036854775807)) (.need (Decidable.decide (0 ≤ IntKind.u8.wrap (c2.tdiv 16) ∧ IntKind.u8.wrap (c2.tdiv 16) ≤ IntKind.u8.wrap (IntKind.u8.wrap (c2.tdiv 16) + 1) ∧ IntKind.u8.wrap (IntKind.u8.wrap (c2.tdiv 16) + 1) ≤ (↑16 : Int))) (.need (Decidable.decide ((s_3 ++ bytesL [92, 120]).size + ((bytesL [48, 49, 50, 51, 52, 53, 54, 55, 56, 57, 97, 98, 99, 100, 101, 102]).extract (IntKind.u8.wrap (c2.tdiv 16)).toNat (IntKind.u8.wrap (IntKind.u8.wrap (c2.tdiv 16) + 1)).toNat).size ≤ 9223372036854775807)) (.need (Decidable.decide (0 ≤ c2.tmod 16 ∧ c2.tmod 16 ≤ IntKind.u8.wrap (c2.tmod 16 + 1) ∧ IntKind.u8.wrap (c2.tmod 16 + 1) ≤ (↑16 : Int))) (.need (Decidable.decide ((s_3 ++ bytesL [92, 120] ++ (bytesL [48, 49, 50, 51, 52, 53, 54, 55, 56, 57, 97, 98, 99, 100, 101, 102]).extract (IntKind.u8.wrap (c2.tdiv 16)).toNat (IntKind.u8.wrap (IntKind.u8.wrap (c2.tdiv 16) + 1)).toNat).size + ((bytesL [48, 49, 50, 51, 52, 53, 54, 55, 56, 57, 97, 98, 99, 100, 101, 102]).extract (c2.tmod 16).toNat (IntKind.u8.wrap (c2.tmod 16 + 1)).toNat).size ≤ 9223372036854775807)) (.undrawn (.fin .normal [(3, .string (s_3 ++ bytesL [92, 120] ++ (bytesL [48, 49, 50, 51, 52, 53, 54, 55, 56, 57, 97, 98, 99, 100, 101, 102]).extract (IntKind.u8.wrap (c2.tdiv 16)).toNat (IntKind.u8.wrap (IntKind.u8.wrap (c2.tdiv 16) + 1)).toNat ++ (bytesL [48, 49, 50, 51, 52, 53, 54, 55, 56, 57, 97, 98, 99, 100, 101, 102]).extract (c2.tmod 16).toNat (IntKind.u8.wrap (c2.tmod 16 + 1)).toNat)), (4, .int .i64 (IntKind.i64.wrap (x_4 + 1)))]))))))))))))))))) (.fin (.exit 0) [(3, .string s_3)]) := by kernel_rfl
def s122 : Script := .lp 0 [0, 2] [3, 4] mx122_1 mr122_1 (.nd .nil) .nil
theorem t122 (qs0 : ByteArray) : fnT Tryz.prog Tryz.f122 #[.string qs0] s122 = .loop (at_ Tryz.f122 [1, 1, 0, 1, 0, 0]) 95 (fx122_1 qs0) [(3, .string (bytesL [34])), (4, .int .i64 0)] mx122_1 mr122_1 0 (fun u8 g8 => .need (Decidable.decide (u8.fst.size + (bytesL [34]).size ≤ 9223372036854775807)) (.done (.returned (.string (u8.fst ++ bytesL [34]))))) (fun u9 g9 => .stuck) := by kernel_rfl
/-! the tree of function 121 -/
abbrev fx121_1 (qx0 : Int) : List (Tmp × Value) := [(0, .int .i64 qx0)]
abbrev mx121_1 : List (Tmp × Comp) := [(10, .leaf .bool)]
def s121_1 : Script := .sym (.lit (.lit .nil)) (.lit (.lit .nil))
theorem t121_1 (qx0 : Int) (gg1 : Nat → Value) : pieceT Tryz.prog (at_ Tryz.f121 [1, 0, 0]) 42 (fx121_1 qx0) gg1 (mx121_1.map (·.1)) [] [] s121_1 = .br (Decidable.decide (qx0 ≥ 0)) (.fin .normal [(10, .bool (Decidable.decide (qx0 < 10)))]) (.fin .normal [(10, .bool false)]) := by kernel_rfl
abbrev fx121_3 (qx0 : Int) : List (Tmp × Value) := [(0, .int .i64 qx0)]
abbrev mx121_3 : List (Tmp × Comp) := [(20, .leaf .bool)]
def s121_3 : Script := .sym (.lit (.lit .nil)) (.lit (.lit .nil))
theorem t121_3 (qx0 : Int) (gg3 : Nat → Value) : pieceT Tryz.prog (at_ Tryz.f121 [1, 1, 0, 0]) 42 (fx121_3 qx0) gg3 (mx121_3.map (·.1)) [] [] s121_3 = .br (Decidable.decide (qx0 < 0)) (.fin .normal [(20, .bool (Decidable.decide (qx0 > -10)))]) (.fin .normal [(20, .bool false)]) := by kernel_rfl
def s121 : Script := .ct 2 [0] mx121_1 (.sym (.nop (.nop (.nop (.nd .nil)))) (.ct 1 [0] mx121_3 (.sym (.nop (.nop (.nop (.nop (.nd (.nd .nil)))))) (.cl (.one (.leaf .str)) (.sym (.nop (.nop (.nop (.nop (.nop (.nop (.nop (.nd (.nd .nil))))))))) (.nop (.nop (.nop (.nop (.nd (.nd .nil)))))))))))
theorem t121 (qx0 : Int) : fnT Tryz.prog Tryz.f121 #[.int .i64 qx0] s121 = .cut (at_ Tryz.f121 [1, 0, 0]) 42 (fx121_1 qx0) mx121_1 (fun u2 g2 => .br u2.1 (.need (Decidable.decide (0 ≤ qx0 ∧ qx0 ≤ IntKind.i64.wrap (qx0 + 1) ∧ IntKind.i64.wrap (qx0 + 1) ≤ (↑16 : Int))) (.done (.returned (.string ((bytesL [48, 49, 50, 51, 52, 53, 54, 55, 56, 57, 97, 98, 99, 100, 101, 102]).extract qx0.toNat (IntKind.i64.wrap (qx0 + 1)).toNat))))) (.cut (at_ Tryz.f121 [1, 1, 0, 0]) 42 (fx121_3 qx0) mx121_3 (fun u4 g4 => .br u4.1 (.need (Decidable.decide (0 ≤ IntKind.i64.wrap (0 - qx0) ∧ IntKind.i64.wrap (0 - qx0) ≤ IntKind.i64.wrap (1 - qx0) ∧ IntKind.i64.wrap (1 - qx0) ≤ (↑16 : Int))) (.need (Decidable.decide ((bytesL [45]).size + ((bytesL [48, 49, 50, 51, 52, 53, 54, 55, 56, 57, 97, 98, 99, 100, 101, 102]).extract (IntKind.i64.wrap (0 - qx0)).toNat (IntKind.i64.wrap (1 - qx0)).toNat).size ≤ 9223372036854775807)) (.done (.returned (.string (bytesL [45] ++ (bytesL [48, 49, 50, 51, 52, 53, 54, 55, 56, 57, 97, 98, 99, 100, 101, 102]).extract (IntKind.i64.wrap (0 - qx0)).toNat (IntKind.i64.wrap (1 - qx0)).toNat)))))) (.call 121 #[.int .i64 (IntKind.i64.wrap (qx0.tdiv 10))] (.one (.leaf .str)) (fun s5 => .br (Decidable.decide (qx0.tmod 10 < 0)) (.need (Decidable.decide (0 ≤ IntKind.i64.wrap (0 - qx0.tmod 10) ∧ IntKind.i64.wrap (0 - qx0.tmod 10) ≤ IntKind.i64.wrap (IntKind.i64.wrap (0 - qx0.tmod 10) + 1) ∧ IntKind.i64.wrap (IntKind.i64.wrap (0 - qx0.tmod 10) + 1) ≤ (↑16 : Int))) (.need (Decidable.decide (s5.size + ((bytesL [48, 49, 50, 51, 52, 53, 54, 55, 56, 57, 97, 98, 99, 100, 101, 102]).extract (IntKind.i64.wrap (0 - qx0.tmod 10)).toNat (IntKind.i64.wrap (IntKind.i64.wrap (0 - qx0.tmod 10) + 1)).toNat).size ≤ 9223372036854775807)) (.done (.returned (.string (s5 ++ (bytesL [48, 49, 50, 51, 52, 53, 54, 55, 56, 57, 97, 98, 99, 100, 101, 102]).extract (IntKind.i64.wrap (0 - qx0.tmod 10)).toNat (IntKind.i64.wrap (IntKind.i64.wrap (0 - qx0.tmod 10) + 1)).toNat)))))) (.need (Decidable.decide (0 ≤ qx0.tmod 10 ∧ qx0.tmod 10 ≤ IntKind.i64.wrap (qx0.tmod 10 + 1) ∧ IntKind.i64.wrap (qx0.tmod 10 + 1) ≤ (↑16 : Int))) (.need (Decidable.decide (s5.size + ((bytesL [48, 49, 50, 51, 52, 53, 54, 55, 56, 57, 97, 98, 99, 100, 101, 102]).extract (qx0.tmod 10).toNat (IntKind.i64.wrap (qx0.tmod 10 + 1)).toNat).size ≤ 9223372036854775807)) (.done (.returned (.string (s5 ++ (bytesL [48, 49, 50, 51, 52, 53, 54, 55, 56, 57, 97, 98, 99, 100, 101, 102]).extract (qx0.tmod 10).toNat (IntKind.i64.wrap (qx0.tmod 10 + 1)).toNat))))))))))) := by kernel_rfl
theorem pk_at {s : ByteArray} {i : Nat} (h : i < s.size) : (s[(i : Int).toNat]'(by simpa using h)).toNat = pk (rest s i) := by rw [pk_rest h]; rfl
theorem accM_step {s : ByteArray} {v k j : Nat} (h : j < s.size) : accM v (k + 1) (rest s j) = if 128 ≤ pk (rest s j) ∧ pk (rest s j) < 192 then accM (v * 64 + pk (rest s j) - 128) k (rest s (j + 1)) else none := by
  rw [pk_rest h, accM]
  rfl
theorem bl_cat (a b : List UInt8) : bytesL a ++ bytesL b = bytesL (a ++ b) := by
  apply ByteArray.ext
  simp [ByteArray.data_append]
set_option maxHeartbeats 2000000 in
theorem runeAt_any (s : ByteArray) (i : Nat) (w : World) (hs : s.size ≤ 140737488355328) (hi : i < s.size) :
    Calls Tryz.prog 143 #[.string s, .int .i64 (i : Int)] w fun e w' => e = .returned (.tuple #[.int .i64 ((runeM (rest s i)).1 : Int), .int .i64 ((runeM (rest s i)).2 : Int)]) ∧ w' = w := by
  refine calls_of_fnT mixed Tryz.func143 (s := s143) ?_
  rw [t143, ← runeR_is]
  refine bi_i (by omega) (by simpa using hi) ?_
  rw [pk_at hi]
  have hb := pk_256 (rest s i)
  have hrl : (rest s i).length = s.size - i := restL s i
  have htl : (rest s i).tail = rest s (i + 1) := rest_tail s i
  unfold runeR
  rw [hrl, htl]
  generalize pk (rest s i) = b at *
  have hwb : IntKind.i64.wrap (b : Int) = b := wrap_in (by omega) (by omega)
  refine cutr_i mixed s143_2 (fun v w' => w' = w ∧ v = (((headM b).1 : Int), ((headM b).2.1 : Int), ((headM b).2.2 : Int), ())) (fun _ _ => False) (by kernel_rfl) (by kernel_rfl) (fun g => ?_) ?_ (fun _ _ _ h => h.elim)
  · rw [t143_2, hwb]
    refine cut_i mixed s143_3 (fun v w' => w' = w ∧ v.1 = decide (192 ≤ b ∧ b < 224)) (by kernel_rfl) (fun g => ?_) ?_
    · rw [t143_3, hwb]
      refine br_both (fun e => ⟨rfl, (decide ((b : Int) < 224), ()), rfl, rfl, ?_⟩) fun e => ⟨rfl, (false, ()), rfl, rfl, ?_⟩
      · have e := ge_t e
        exact decide_eq_decide.2 ⟨fun h => ⟨by omega, by omega⟩, fun h => by omega⟩
      · have e := ge_f e
        exact (decide_eq_false (by omega)).symm
    rintro ⟨u, ⟨⟩⟩ g w1 ⟨rfl, hu⟩
    dsimp only at hu
    subst hu
    refine br_both (fun e => ?_) fun e1 => ?_
    · have e := of_decide_eq_true e
      have hw : IntKind.i64.wrap ((b : Int) - 192) = ((b - 192 : Nat) : Int) := by rw [wrap_in (by omega) (by omega)]; omega
      rw [hw]
      refine ⟨(2, ((b - 192 : Nat) : Int), 128, ()), rfl, rfl, ?_⟩
      unfold headM
      rw [if_pos e]; rfl
    have e1 := of_decide_eq_false e1
    refine cut_i mixed s143_5 (fun v w' => w' = w1 ∧ v.1 = decide (224 ≤ b ∧ b < 240)) (by kernel_rfl) (fun g => ?_) ?_
    · rw [t143_5, hwb]
      refine br_both (fun e => ⟨rfl, (decide ((b : Int) < 240), ()), rfl, rfl, ?_⟩) fun e => ⟨rfl, (false, ()), rfl, rfl, ?_⟩
      · have e := ge_t e
        exact decide_eq_decide.2 ⟨fun h => ⟨by omega, by omega⟩, fun h => by omega⟩
      · have e := ge_f e
        exact (decide_eq_false (by omega)).symm
    rintro ⟨u, ⟨⟩⟩ g w2 ⟨rfl, hu⟩
    dsimp only at hu
    subst hu
    refine br_both (fun e => ?_) fun e2 => ?_
    · have e := of_decide_eq_true e
      have hw : IntKind.i64.wrap ((b : Int) - 224) = ((b - 224 : Nat) : Int) := by rw [wrap_in (by omega) (by omega)]; omega
      rw [hw]
      refine ⟨(3, ((b - 224 : Nat) : Int), 2048, ()), rfl, rfl, ?_⟩
      unfold headM
      rw [if_neg e1, if_pos e]; rfl
    have e2 := of_decide_eq_false e2
    refine br_both (fun e3 => br_both (fun e4 => ?_) fun e4 => ?_) fun e3 => ?_
    · have e3 := ge_t e3
      have e4 := lt_t e4
      have hw : IntKind.i64.wrap ((b : Int) - 240) = ((b - 240 : Nat) : Int) := by rw [wrap_in (by omega) (by omega)]; omega
      rw [hw]
      refine ⟨(4, ((b - 240 : Nat) : Int), 65536, ()), rfl, rfl, ?_⟩
      unfold headM
      rw [if_neg e1, if_neg e2, if_pos ⟨by omega, by omega⟩]; rfl
    · have e4 := lt_f e4
      refine ⟨(0, 0, 0, ()), rfl, rfl, ?_⟩
      unfold headM
      rw [if_neg e1, if_neg e2, if_neg (by omega)]; rfl
    · have e3 := ge_f e3
      refine ⟨(0, 0, 0, ()), rfl, rfl, ?_⟩
      unfold headM
      rw [if_neg e1, if_neg e2, if_neg (by omega)]; rfl
  have hn4 : (headM b).1 ≤ 4 ∧ (headM b).2.1 < 32 := by
    unfold headM
    split
    · dsimp only; omega
    split
    · dsimp only; omega
    split <;> dsimp only <;> omega
  rintro v g w1 ⟨rfl, rfl⟩
  generalize hn : (headM b).1 = n at *
  generalize hv0 : (headM b).2.1 = v0 at *
  generalize hlo : (headM b).2.2 = lo at *
  dsimp only
  have hwn : IntKind.i64.wrap ((i : Int) + (n : Int)) = ((i + n : Nat) : Int) := by rw [wrap_in (by omega) (by omega)]; omega
  refine cutr_i mixed s143_8 (fun v w' => w' = w1 ∧ ¬ (n = 0 ∨ n > s.size - i)) (fun v w' => w' = w1 ∧ v = (0, 0, ()) ∧ (n = 0 ∨ n > s.size - i)) (by kernel_rfl) (by kernel_rfl) (fun g => ?_) ?_ ?_
  · rw [t143_8]
    dsimp only
    rw [hwn]
    refine br_both (fun e => ⟨(0, 0, ()), rfl, rfl, rfl, .inl (by have := eq_t e; omega)⟩) fun e => br_both (fun e1 => ⟨(0, 0, ()), rfl, rfl, rfl, .inr (by have := gt_t e1; omega)⟩) fun e1 => ⟨(), rfl, rfl, ?_⟩
    have e := eq_f e
    have e1 := gt_f e1
    omega
  · rintro ⟨⟩ g w2 ⟨rfl, hnn⟩
    rw [if_neg hnn]
    refine cutr_i mixed s143_10 (fun v w' => w' = w2 ∧ ∃ x : Nat, v.1 = x ∧ accM v0 (n - 1) (rest s (i + 1)) = some x) (fun v w' => w' = w2 ∧ v = (0, 0, ()) ∧ accM v0 (n - 1) (rest s (i + 1)) = none) (by kernel_rfl) (by kernel_rfl) (fun g => ?_) ?_ ?_
    · rw [t143_10]
      dsimp only
      refine loop_i mixed m143_11 s143_11 (by kernel_rfl) (by kernel_rfl)
        (fun (v : Int × Int × Unit) w' => w' = w2 ∧ ∃ (x j : Nat), v.1 = x ∧ v.2.1 = j ∧ 1 ≤ j ∧ j ≤ n ∧ x < 64 ^ (j + 1) ∧ accM v0 (n - 1) (rest s (i + 1)) = accM x (n - j) (rest s (i + j)))
        (fun (v : Int × Int × Unit) _ => n - v.2.1.toNat) ((v0 : Int), 1, ()) rfl ⟨rfl, v0, 1, rfl, rfl, by omega, by omega, by omega, rfl⟩ ?_
      rintro ⟨a, c, ⟨⟩⟩ g w3 ⟨rfl, x, j, ha, hc, hj1, hjn, hx, hacc⟩
      dsimp only at ha hc
      subst ha hc
      rw [t143_11]
      dsimp only
      refine br_both (fun e => ?_) fun e => ?_
      · have e : j < n := by have := lt_t e; omega
        have hij : i + j < s.size := by omega
        have hwj : IntKind.i64.wrap ((i : Int) + (j : Int)) = ((i + j : Nat) : Int) := by rw [wrap_in (by omega) (by omega)]; omega
        rw [hwj]
        refine bi_i (by omega) (by rw [Int.toNat_natCast]; exact hij) ?_
        rw [pk_at hij]
        have hb1 := pk_256 (rest s (i + j))
        obtain ⟨k, hk⟩ : ∃ k, n - j = k + 1 := ⟨n - j - 1, by omega⟩
        rw [hk, accM_step hij] at hacc
        generalize pk (rest s (i + j)) = c1 at *
        have hwc : IntKind.i64.wrap (c1 : Int) = c1 := wrap_in (by omega) (by omega)
        have hxb : x < 1073741824 := by
          have : (64 : Nat) ^ (j + 1) ≤ 64 ^ 5 := Nat.pow_le_pow_right (by omega) (by omega)
          omega
        refine cutr_i mixed s143_13 (fun v w' => w' = w3 ∧ 128 ≤ c1 ∧ c1 < 192) (fun v w' => w' = w3 ∧ v = (0, 0, ()) ∧ ¬ (128 ≤ c1 ∧ c1 < 192)) (by kernel_rfl) (by kernel_rfl) (fun g => ?_) ?_ ?_
        · rw [t143_13, hwc]
          refine br_both (fun e => ⟨(0, 0, ()), rfl, rfl, rfl, by have := lt_t e; omega⟩) fun e => br_both (fun e1 => ⟨(0, 0, ()), rfl, rfl, rfl, by have := ge_t e1; omega⟩) fun e1 => ⟨(), rfl, rfl, ?_⟩
          have e := lt_f e
          have e1 := ge_f e1
          omega
        · rintro ⟨⟩ g w4 ⟨rfl, k1, k2⟩
          rw [if_pos ⟨k1, k2⟩] at hacc
          have hw1 : IntKind.i64.wrap (IntKind.i64.wrap (IntKind.i64.wrap ((x : Int) * 64) + IntKind.i64.wrap (c1 : Int)) - 128) = ((x * 64 + c1 - 128 : Nat) : Int) := by
            rw [hwc, wrap_in (x := (x : Int) * 64) (by omega) (by omega), wrap_in (x := (x : Int) * 64 + (c1 : Int)) (by omega) (by omega), wrap_in (by omega) (by omega)]; omega
          have hw2 : IntKind.i64.wrap ((j : Int) + 1) = ((j + 1 : Nat) : Int) := wrap_succ (by omega) (by omega)
          rw [hw1, hw2]
          refine ⟨(((x * 64 + c1 - 128 : Nat) : Int), ((j + 1 : Nat) : Int), ()), rfl, ⟨rfl, _, j + 1, rfl, rfl, by omega, by omega, ?_, ?_⟩, by dsimp only; omega⟩
          · rw [Nat.pow_succ]; omega
          · rw [hacc, show n - (j + 1) = k by omega]; rfl
        · rintro v g w4 ⟨rfl, rfl, hk1⟩
          rw [if_neg hk1] at hacc
          exact ⟨(0, 0, ()), rfl, fun g => ⟨(0, 0, ()), rfl, rfl, rfl, hacc⟩⟩
      · have e : n = j := by have := lt_f e; omega
        refine ⟨rfl, ((x : Int), ()), rfl, fun g => ⟨((x : Int), ()), rfl, rfl, x, rfl, ?_⟩⟩
        rw [hacc, show n - j = 0 by omega]; rfl
    · rintro ⟨v, ⟨⟩⟩ g w3 ⟨rfl, x, hvx, hacc⟩
      dsimp only at hvx
      subst hvx
      dsimp only
      rw [hacc]
      dsimp only
      refine br_both (fun e => ?_) fun e1 => br_both (fun e => ?_) fun e2 => br_both (fun e3 => br_both (fun e4 => ?_) fun e4 => ?_) fun e3 => ?_
      · rw [if_pos (.inl (by have := lt_t e; omega))]; exact ⟨rfl, rfl⟩
      · rw [if_pos (.inr (.inl (by have := gt_t e; omega)))]; exact ⟨rfl, rfl⟩
      · rw [if_pos (.inr (.inr ⟨by have := ge_t e3; omega, by have := lt_t e4; omega⟩))]; exact ⟨rfl, rfl⟩
      · have e1 := lt_f e1
        have e2 := gt_f e2
        have e4 := lt_f e4
        rw [if_neg (by omega)]; exact ⟨rfl, rfl⟩
      · have e1 := lt_f e1
        have e2 := gt_f e2
        have e3 := ge_f e3
        rw [if_neg (by omega)]; exact ⟨rfl, rfl⟩
    · rintro v g w3 ⟨rfl, rfl, hacc⟩
      rw [hacc]; exact ⟨rfl, rfl⟩
  · rintro v g w2 ⟨rfl, rfl, hnn⟩
    rw [if_pos hnn]; exact ⟨rfl, rfl⟩
theorem hexE (n : Nat) (h : n < 16) : (bytesL [48, 49, 50, 51, 52, 53, 54, 55, 56, 57, 97, 98, 99, 100, 101, 102]).extract n (n + 1) = bytesL [hexL n] := by
  have key : ∀ m : Fin 16, (bytesL [48, 49, 50, 51, 52, 53, 54, 55, 56, 57, 97, 98, 99, 100, 101, 102]).extract m.val (m.val + 1) = bytesL [hexL m.val] := by decide +kernel
  exact key ⟨n, h⟩
theorem bytesL_eq (t : ByteArray) : t = bytesL t.data.toList := by cases t; simp
set_option maxHeartbeats 2000000 in
theorem quote2_any (s : ByteArray) (w : World) (hs : s.size ≤ 1000000000) :
    Calls Tryz.prog 122 #[.string s] w fun e w' => e = .returned (.string (bytesL (quoteB s))) ∧ Ch No w w' := by
  refine calls_of_fnT mixed Tryz.func122 (s := s122) ?_
  rw [t122]
  have hq0 : qR s.size (rest s 0) = quoteF s s.size 0 := qR_is s s.size 0 (by omega) (by omega)
  refine loop_i mixed m122_1 s122_1 (by kernel_rfl) (by kernel_rfl)
    (fun (v : ByteArray × Int × Unit) w' => Ch No w w' ∧ ∃ (i : Nat) (A : List UInt8), v.1 = bytesL (34 :: A) ∧ v.2.1 = i ∧ i ≤ s.size ∧ A.length ≤ 4 * i ∧ A ++ qR (s.size - i) (rest s i) = quoteF s s.size 0)
    (fun (v : ByteArray × Int × Unit) _ => s.size - v.2.1.toNat) (bytesL [34], 0, ()) rfl ⟨Ch.refl _ _, 0, [], rfl, rfl, by omega, by simp, hq0⟩ ?_
  rintro ⟨t, i', ⟨⟩⟩ g w1 ⟨h1, i, A, ht, hi', hi, hA, hq⟩
  dsimp only at ht hi'
  subst ht hi'
  rw [t122_1]
  have cat : ∀ (B : List UInt8), bytesL (34 :: A) ++ bytesL B = bytesL (34 :: (A ++ B)) := fun B => by rw [bl_cat]; rfl
  have sz : ∀ (B : List UInt8), (bytesL B).size = B.length := tb_size
  refine br_both (fun e => ?_) fun e => ?_
  · have hil : i < s.size := by have := lt_t e; omega
    have hL := pk_rest hil
    have hr := runeM_len (rest s i)
    rw [restL] at hr
    refine bi_i (by omega) (by simpa using hil) ?_
    rw [pk_at hil]
    refine cl_i (runeAt_any s i w1 (by omega) hil) ?_
    rintro e' w2 ⟨rfl, rfl⟩
    refine ⟨(((runeM (rest s i)).1 : Int), ((runeM (rest s i)).2 : Int), ()), rfl, ?_⟩
    obtain ⟨k, hk⟩ : ∃ k, s.size - i = k + 1 := ⟨s.size - i - 1, by omega⟩
    have hpk : pk (rest s i) = (s[i]'hil).toNat := by rw [hL]; rfl
    have hw1 : IntKind.i64.wrap ((i : Int) + 1) = ((i + 1 : Nat) : Int) := wrap_succ (by omega) (by omega)
    have hx1 : s.extract i (i + 1) = bytesL [s[i]'hil] := by
      rw [bytesL_eq (s.extract i (i + 1)), extract_list, hL, show i + 1 - i = 1 by omega]; rfl
    have hk' : s.size - (i + 1) = k := by omega
    rw [hk, hL, qR, ← hL, ← hpk] at hq
    have hb := pk_256 (rest s i)
    -- one byte goes by
    have one : ∀ (B : List UInt8) (w3 : World), Ch No w2 w3 → B.length ≤ 4 → A ++ (B ++ qR k (rest s (i + 1))) = quoteF s s.size 0 → ∃ v' : MVars m122_1, [((3 : Nat), Value.string (bytesL (34 :: (A ++ B)))), (4, .int .i64 ((i + 1 : Nat) : Int))] = mvals m122_1 v' ∧
        (Ch No w w3 ∧ ∃ (i : Nat) (A : List UInt8), v'.1 = bytesL (34 :: A) ∧ v'.2.1 = i ∧ i ≤ s.size ∧ A.length ≤ 4 * i ∧ A ++ qR (s.size - i) (rest s i) = quoteF s s.size 0) ∧ s.size - v'.2.1.toNat < s.size - (i : Int).toNat := fun B w3 h3 hB hq' =>
      ⟨(bytesL (34 :: (A ++ B)), ((i + 1 : Nat) : Int), ()), rfl, ⟨h1.trans h3, i + 1, A ++ B, rfl, rfl, by omega, by rw [List.length_append]; omega, by rw [hk', List.append_assoc]; exact hq'⟩, by dsimp only; omega⟩
    refine cut_i mixed s122_4 (fun v w' => w' = w2 ∧ v.1 = decide (pk (rest s i) = 34 ∨ pk (rest s i) = 92)) (by kernel_rfl) (fun g => ?_) ?_
    · rw [t122_4]
      refine br_both (fun e => ⟨rfl, (true, ()), rfl, rfl, ?_⟩) fun e => ⟨rfl, ((pk (rest s i) : Int) == 92, ()), rfl, rfl, ?_⟩
      · exact (decide_eq_true (.inl (by have := eq_t e; omega))).symm
      · have e := eq_f e
        by_cases h9 : pk (rest s i) = 92
        · rw [h9]; rfl
        · rw [decide_eq_false (by omega)]
          exact beq_eq_false_iff_ne.2 (by omega)
    rintro ⟨u, ⟨⟩⟩ g w3 ⟨rfl, hu⟩
    dsimp only at hu
    subst hu
    rw [hw1]
    refine br_both (fun e => ?_) fun e1 => br_both (fun e => ?_) fun e2 => br_both (fun e => ?_) fun e3 => ?_
    · have e := of_decide_eq_true e
      rw [if_pos e] at hq
      refine nd_i (decide_eq_true (by simp only [sz, List.length_cons, List.length_nil]; omega)) (nd3 (by omega) (by omega) (by omega) ?_)
      rw [Int.toNat_natCast, Int.toNat_natCast, hx1, bl_cat, bl_cat, List.append_assoc]
      refine nd_i (decide_eq_true (by simp only [sz, List.length_cons, List.length_append, List.length_nil]; omega)) ?_
      exact one [92, s[i]'hil] w3 (Ch.refl _ _) (by simp) (by simpa using hq)
    · have e1 := of_decide_eq_false e1
      have e : pk (rest s i) = 10 := by have := eq_t e; omega
      rw [if_neg e1, if_pos e] at hq
      rw [cat]
      exact nd_i (decide_eq_true (by simp only [sz, List.length_cons, List.length_nil]; omega)) (one [92, 110] w3 (Ch.refl _ _) (by simp) (by simpa using hq))
    · have e1 := of_decide_eq_false e1
      have e2 := eq_f e2
      have e : pk (rest s i) = 9 := by have := eq_t e; omega
      rw [if_neg e1, if_neg (by omega), if_pos e] at hq
      rw [cat]
      exact nd_i (decide_eq_true (by simp only [sz, List.length_cons, List.length_nil]; omega)) (one [92, 116] w3 (Ch.refl _ _) (by simp) (by simpa using hq))
    have e1 := of_decide_eq_false e1
    have e2 := eq_f e2
    have e3 := eq_f e3
    rw [if_neg e1, if_neg (by omega), if_neg (by omega)] at hq
    refine cut_i mixed s122_6 (fun v w' => w' = w3 ∧ v.1 = decide (32 ≤ pk (rest s i) ∧ pk (rest s i) < 127)) (by kernel_rfl) (fun g => ?_) ?_
    · rw [t122_6]
      refine br_both (fun e => ⟨rfl, (decide ((pk (rest s i) : Int) < 127), ()), rfl, rfl, ?_⟩) fun e => ⟨rfl, (false, ()), rfl, rfl, ?_⟩
      · have e := ge_t e
        exact decide_eq_decide.2 ⟨fun h => ⟨by omega, by omega⟩, fun h => by omega⟩
      · have e := ge_f e
        exact (decide_eq_false (by omega)).symm
    rintro ⟨u, ⟨⟩⟩ g w4 ⟨rfl, hu⟩
    dsimp only at hu
    subst hu
    refine br_both (fun e => ?_) fun e4 => ?_
    · have e := of_decide_eq_true e
      rw [if_pos e] at hq
      refine nd3 (by omega) (by omega) (by omega) ?_
      rw [Int.toNat_natCast, Int.toNat_natCast, hx1, cat]
      exact nd_i (decide_eq_true (by simp only [sz, List.length_cons, List.length_nil]; omega)) (one [s[i]'hil] w4 (Ch.refl _ _) (by simp) (by simpa using hq))
    have e4 := of_decide_eq_false e4
    rw [if_neg e4] at hq
    refine br_both (fun e => ?_) fun e5 => ?_
    · have e : 160 ≤ (runeM (rest s i)).1 := by have := ge_t e; dsimp only at this; omega
      rw [if_pos e] at hq
      have h2 := hr.2 (by omega)
      dsimp only
      generalize hwd : (runeM (rest s i)).2 = wd at *
      have hww : IntKind.i64.wrap ((i : Int) + (wd : Int)) = ((i + wd : Nat) : Int) := by rw [wrap_in (by omega) (by omega)]; omega
      have hw3 : IntKind.i64.wrap (IntKind.i64.wrap (((i + wd : Nat) : Int) - 1) + 1) = ((i + wd : Nat) : Int) := by rw [wrap_in (x := ((i + wd : Nat) : Int) - 1) (by omega) (by omega), wrap_in (by omega) (by omega)]; omega
      rw [hww, hw3]
      refine nd3 (by omega) (by omega) (by omega) ?_
      rw [Int.toNat_natCast, Int.toNat_natCast]
      have hx2 : s.extract i (i + wd) = bytesL ((rest s i).take wd) := by
        rw [bytesL_eq (s.extract i (i + wd)), extract_list, show i + wd - i = wd by omega]
      rw [hx2, cat]
      have htk : ((rest s i).take wd).length = wd := by rw [List.length_take, restL]; omega
      refine nd_i (decide_eq_true (by simp only [sz, List.length_cons, htk]; omega)) ?_
      refine ⟨(bytesL (34 :: (A ++ (rest s i).take wd)), ((i + wd : Nat) : Int), ()), rfl, ⟨h1, i + wd, _, rfl, rfl, by omega, by rw [List.length_append, htk]; omega, ?_⟩, by dsimp only; omega⟩
      rw [List.append_assoc, ← hq]
      congr 2
      have hd : (rest s i).drop wd = rest s (i + wd) := by show List.drop wd (List.drop i _) = _; rw [List.drop_drop]
      rw [hd]
      refine qR_eq ?_ ?_ <;> rw [restL] <;> omega
    · have e5 : ¬ 160 ≤ (runeM (rest s i)).1 := by have := ge_f e5; dsimp only at this; omega
      rw [if_neg e5] at hq
      generalize hbb : pk (rest s i) = b at *
      have hd : IntKind.u8.wrap ((b : Int).tdiv 16) = ((b / 16 : Nat) : Int) := by
        rw [IntKind.wrap_u8']; show ((b / 16 : Nat) : Int) % 256 = _; omega
      have hd1 : IntKind.u8.wrap (((b / 16 : Nat) : Int) + 1) = ((b / 16 + 1 : Nat) : Int) := by rw [IntKind.wrap_u8']; omega
      have hm : (b : Int).tmod 16 = ((b % 16 : Nat) : Int) := rfl
      have hm1 : IntKind.u8.wrap (((b % 16 : Nat) : Int) + 1) = ((b % 16 + 1 : Nat) : Int) := by rw [IntKind.wrap_u8']; omega
      simp only [hd, hd1, hm, hm1, Int.toNat_natCast, hexE (b / 16) (by omega), hexE (b % 16) (by omega), bl_cat]
      refine dr_eq (nd_i (decide_eq_true (by simp only [sz, List.length_cons, List.length_nil]; omega)) (nd3 (by omega) (by omega) (by omega) (nd_i (decide_eq_true (by simp only [sz, List.length_cons, List.length_append, List.length_nil]; omega)) (nd3 (by omega) (by omega) (by omega) (nd_i (decide_eq_true (by simp only [sz, List.length_cons, List.length_append, List.length_nil]; omega)) (un_eq ?_))))))
      have := one (hexB (s[i]'hil)) w4.drew (Ch.refl _ _).drew (by simp [hexB]) (by simpa using hq)
      unfold hexB at this
      rw [← hpk] at this
      have e9 : (34 :: A) ++ [92, 120] ++ [hexL (b / 16)] ++ [hexL (b % 16)] = 34 :: (A ++ [92, 120, hexL (b / 16), hexL (b % 16)]) := by simp
      rw [e9]
      exact this
  · have hil : i = s.size := by have := lt_f e; omega
    refine ⟨rfl, (bytesL (34 :: A), ()), rfl, fun g => ?_⟩
    dsimp only
    rw [cat]
    refine nd_i (decide_eq_true (by simp only [sz, List.length_cons, List.length_nil]; omega)) ⟨?_, h1⟩
    rw [hil, Nat.sub_self, show qR 0 (rest s s.size) = [] from rfl, List.append_nil] at hq
    unfold quoteB
    rw [← hq]
theorem itoa_20 (i : Int) (h : Rng i) : (Lib.itoa i).length ≤ 20 := by
  unfold Rng at h
  unfold Lib.itoa
  split
  · have := (dec_len 18 i.natAbs (by omega)).2
    rw [List.length_cons]; omega
  · have := (dec_len 18 i.toNat (by omega)).2
    omega
theorem decimal_any (k : Nat) : ∀ (i : Int) (w : World), i.natAbs < k → Rng i →
    Calls Tryz.prog 121 #[.int .i64 i] w fun e w' => e = .returned (.string (bytesL (Lib.itoa i))) ∧ w' = w := by
  induction k using Nat.strongRecOn with
  | _ k ih =>
    intro i w hk hr
    unfold Rng at hr
    refine calls_of_fnT mixed Tryz.func121 (s := s121) ?_
    rw [t121]
    have dg : ∀ n, n < 10 → hexL n = UInt8.ofNat (48 + n) := fun n h => by unfold hexL; rw [if_pos h]
    refine cut_i mixed s121_1 (fun v w' => w' = w ∧ v.1 = decide (0 ≤ i ∧ i < 10)) (by kernel_rfl) (fun g => ?_) ?_
    · rw [t121_1]
      refine br_both (fun e => ⟨rfl, (decide (i < 10), ()), rfl, rfl, ?_⟩) fun e => ⟨rfl, (false, ()), rfl, rfl, ?_⟩
      · have e := ge_t e
        exact decide_eq_decide.2 ⟨fun h => ⟨e, h⟩, fun h => h.2⟩
      · have e := ge_f e
        exact (decide_eq_false (by omega)).symm
    rintro ⟨u, ⟨⟩⟩ g w1 ⟨rfl, hu⟩
    dsimp only at hu
    subst hu
    refine br_both (fun e => ?_) fun e1 => ?_
    · have e := of_decide_eq_true e
      obtain ⟨n, rfl⟩ := Int.eq_ofNat_of_zero_le e.1
      have hw : IntKind.i64.wrap ((n : Int) + 1) = ((n + 1 : Nat) : Int) := wrap_succ (by omega) (by omega)
      rw [hw]
      refine nd3 (by omega) (by omega) (by omega) ?_
      have hi : Lib.itoa (n : Int) = [hexL n] := by
        unfold Lib.itoa
        rw [if_neg (by omega), Int.toNat_natCast, Lib.decDigits, dif_pos (by omega), dg n (by omega)]
      rw [Int.toNat_natCast, Int.toNat_natCast, hexE _ (by omega), hi]
      exact ⟨rfl, rfl⟩
    have e1 := of_decide_eq_false e1
    refine cut_i mixed s121_3 (fun v w' => w' = w1 ∧ v.1 = decide (i < 0 ∧ -10 < i)) (by kernel_rfl) (fun g => ?_) ?_
    · rw [t121_3]
      refine br_both (fun e => ⟨rfl, (decide (i > -10), ()), rfl, rfl, ?_⟩) fun e => ⟨rfl, (false, ()), rfl, rfl, ?_⟩
      · have e := lt_t e
        exact decide_eq_decide.2 ⟨fun h => ⟨e, by omega⟩, fun h => by omega⟩
      · have e := lt_f e
        exact (decide_eq_false (by omega)).symm
    rintro ⟨u, ⟨⟩⟩ g w2 ⟨rfl, hu⟩
    dsimp only at hu
    subst hu
    refine br_both (fun e => ?_) fun e2 => ?_
    · have e := of_decide_eq_true e
      obtain ⟨n, hn⟩ : ∃ n : Nat, i = -(n : Int) := ⟨i.natAbs, by omega⟩
      subst hn
      have hw : IntKind.i64.wrap (0 - -(n : Int)) = (n : Int) := by rw [wrap_in (by omega) (by omega)]; omega
      have hw1 : IntKind.i64.wrap (1 - -(n : Int)) = ((n + 1 : Nat) : Int) := by rw [wrap_in (by omega) (by omega)]; omega
      rw [hw, hw1]
      refine nd3 (by omega) (by omega) (by omega) ?_
      have hi : Lib.itoa (-(n : Int)) = [45, hexL n] := by
        unfold Lib.itoa
        rw [if_pos (by omega), show (-(n : Int)).natAbs = n by omega, Lib.decDigits, dif_pos (by omega), dg n (by omega)]
      rw [Int.toNat_natCast, Int.toNat_natCast, hexE _ (by omega), hi]
      exact nd_i (decide_eq_true (by simp only [tb_size, List.length_cons, List.length_nil]; omega)) ⟨by rw [bl_cat]; rfl, rfl⟩
    have e2 := of_decide_eq_false e2
    have h10 : 10 ≤ i.natAbs := by omega
    obtain ⟨k, rfl⟩ : ∃ m, k = m + 1 := ⟨k - 1, by omega⟩
    have cases_ : ∃ n : Nat, (i = n ∧ i.tdiv 10 = ((n / 10 : Nat) : Int) ∧ i.tmod 10 = ((n % 10 : Nat) : Int)) ∨ (i = -(n : Int) ∧ i.tdiv 10 = -((n / 10 : Nat) : Int) ∧ i.tmod 10 = -((n % 10 : Nat) : Int)) := by
      rcases Int.lt_or_le i 0 with h | h
      · refine ⟨i.natAbs, .inr ?_⟩
        have hi : i = -(i.natAbs : Int) := by omega
        refine ⟨hi, ?_, ?_⟩
        · rw [hi, Int.neg_tdiv, Int.natAbs_neg, Int.natAbs_natCast]; rfl
        · rw [hi, Int.neg_tmod, Int.natAbs_neg, Int.natAbs_natCast]; rfl
      · obtain ⟨n, rfl⟩ := Int.eq_ofNat_of_zero_le h
        exact ⟨n, .inl ⟨rfl, rfl, rfl⟩⟩
    obtain ⟨n, hc⟩ := cases_
    have hn10 : 10 ≤ n := by omega
    have hqr : Rng (i.tdiv 10) := by unfold Rng; omega
    have hw : IntKind.i64.wrap (i.tdiv 10) = i.tdiv 10 := wrap_in (by unfold Rng at hqr; omega) (by unfold Rng at hqr; omega)
    rw [hw]
    refine cl_i (ih k (by omega) (i.tdiv 10) w2 (by omega) hqr) ?_
    rintro e w3 ⟨rfl, rfl⟩
    have hit : Lib.itoa i = Lib.itoa (i.tdiv 10) ++ [hexL (n % 10)] := by
      unfold Lib.itoa
      rcases hc with ⟨h1, h2, _⟩ | ⟨h1, h2, _⟩
      · rw [if_neg (by omega), if_neg (by omega), h1, ← h1, h2]
        conv => lhs; rw [Lib.decDigits, dif_neg (by omega)]
        rw [dg _ (by omega), show i.toNat = n by omega, Int.toNat_natCast]
      · rw [if_pos (by omega), if_pos (by omega), h2, List.cons_append]
        conv => lhs; rw [Lib.decDigits, dif_neg (by omega)]
        rw [dg _ (by omega), show i.natAbs = n by omega, show (-((n / 10 : Nat) : Int)).natAbs = n / 10 by omega]
    have fin : ∀ {R : Ending → World → Prop} {Q : Exit → List (Tmp × Value) → World → Prop}, R (.returned (.string (bytesL (Lib.itoa i)))) w3 → wpT Tryz.prog R Q (.need (Decidable.decide ((bytesL (Lib.itoa (i.tdiv 10))).size + (bytesL [hexL (n % 10)]).size ≤ 9223372036854775807)) (.done (.returned (.string (bytesL (Lib.itoa (i.tdiv 10)) ++ bytesL [hexL (n % 10)]))))) .pl w3 := fun hR => by
      refine nd_i (decide_eq_true ?_) ?_
      · have := itoa_20 (i.tdiv 10) hqr
        simp only [tb_size, List.length_cons, List.length_nil]
        omega
      · rw [bl_cat, ← hit]
        exact hR
    refine ⟨_, rfl, br_both (fun e => ?_) fun e => ?_⟩
    · have e := lt_t e
      have hw1 : IntKind.i64.wrap (0 - i.tmod 10) = ((n % 10 : Nat) : Int) := by rw [wrap_in (by omega) (by omega)]; omega
      have hw2 : IntKind.i64.wrap (((n % 10 : Nat) : Int) + 1) = ((n % 10 + 1 : Nat) : Int) := wrap_succ (by omega) (by omega)
      rw [hw1, hw2]
      refine nd3 (by omega) (by omega) (by omega) ?_
      rw [Int.toNat_natCast, Int.toNat_natCast, hexE _ (by omega)]
      exact fin ⟨rfl, rfl⟩
    · have e := lt_f e
      have hm : i.tmod 10 = ((n % 10 : Nat) : Int) := by omega
      have hw2 : IntKind.i64.wrap (((n % 10 : Nat) : Int) + 1) = ((n % 10 + 1 : Nat) : Int) := wrap_succ (by omega) (by omega)
      rw [hm, hw2]
      refine nd3 (by omega) (by omega) (by omega) ?_
      rw [Int.toNat_natCast, Int.toNat_natCast, hexE _ (by omega)]
      exact fin ⟨rfl, rfl⟩
end Go.Proofs.YtjlmkahagcojcaaGreatDoor.V
