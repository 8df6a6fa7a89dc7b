/- Atoms, lists, calls; all levels. -/
import Derived.Test.YtkebljkdkaagfaaGreatDoorPwj
namespace Go.Proofs.YtkebljkdkaagfaaGreatDoor.E
open Go Tr
open V (rest rest_cases restL sizeB pk_rest cx_i cp_i extract_list)
set_option maxRecDepth 100000
set_option maxHeartbeats 2000000
/-! the tree of function 127 -/
abbrev fx127_32 (qa0 : Addr) (n2 : Nat) : List (Tmp × Value) := [(0, .pointer (some qa0)), (3, .pointer (some ⟨n2, 0, none⟩))]
abbrev m127_32 : List (Tmp × Comp) := [(61, .leaf (.int .i64))]
abbrev mx127_32 : List (Tmp × Comp) := []
abbrev mr127_32 : List (Tmp × Comp) := [(2, .leaf .ifc)]
def s127_32 : Script := .sym (.qt (.ix (.ld .str (.ld .str (.sym (.clp (.one (.agg [.int .i64, .int .i64, .str, .int .i64])) (.ix (.ld .str .nil)) .nil) .nil))))) .nil
theorem t127_32 (qa0 : Addr) (n2 : Nat) (x_61 : Int) (gg32 : Nat → Value) : pieceT Tryz.prog (at_ Tryz.f127 [1, 1, 0, 0, 1, 1, 1, 1, 1, 1, 1, 1, 1, 0, 1, 1, 0, 0]) 82 (fx127_32 qa0 n2 ++ mvals m127_32 (x_61, ())) gg32 (m127_32.map (·.1)) (mx127_32.map (·.1)) (mr127_32.map (·.1)) s127_32 = .br (Decidable.decide (x_61 < 5)) (.drawn (.idx (some ⟨2, 0, none⟩) x_61 11 1 (fun a33 => .load a33 .str (fun s34 => .load ⟨n2, 2, none⟩ .str (fun s35 => .undrawn (.br (s34.toList == s35.toList) (.callp 53 #[.pointer (some qa0)] (.one (.agg [.int .i64, .int .i64, .str, .int .i64])) (fun r36 => .idx (some ⟨2, 0, none⟩) x_61 11 1 (fun a37 => .load a37 .str (fun s38 => .new (.cells #[.string s38] 211 (0, 0)) (fun n39 => .fin .ret [(2, .iface 209 (.pointer (some ⟨n39, 0, none⟩)))])))) (fun ch40 => .done (.panicked ch40))) (.fin .normal [(61, .int .i64 (IntKind.i64.wrap (x_61 + 1)))]))))))) (.fin (.exit 1) []) := by kernel_rfl
def s127 : Script := .clp (.one (.agg [.int .i64, .int .i64, .str, .int .i64])) (.ld (.int .i64) (.sym (.clp (.one (.agg [.int .i64, .int .i64, .str, .int .i64])) (.ld (.int .i64) .nil) .nil) (.ld (.int .i64) (.sym (.clp (.one (.agg [.int .i64, .int .i64, .str, .int .i64])) (.ld .str .nil) .nil) (.clp (.one (.leaf .bool)) (.sym (.clp (.tup []) (.clp (.one (.leaf .ifc)) (.clp (.tup []) .nil .nil) .nil) .nil) (.clp (.one (.leaf .bool)) (.sym (.clp (.one (.leaf .ifc)) .nil .nil) (.ld (.int .i64) (.sym (.ld .str (.cl (.tup [.agg [.str, .int .i64, .any], .leaf .bool]) (.sym (.ld .str (.ld (.int .i64) (.ld .any (.clp (.one (.leaf .ifc)) .nil .nil)))) (.lp 1 [0, 3] [61] mx127_32 mr127_32 (.ld (.int .i64) (.clx .nil)) .nil)))) (.ld (.int .i64) (.clx .nil))))) .nil)) .nil))))) .nil
theorem t127 (qa0 : Addr) : fnT Tryz.prog Tryz.f127 #[.pointer (some qa0)] s127 = .callp 50 #[.pointer (some qa0)] (.one (.agg [.int .i64, .int .i64, .str, .int .i64])) (fun r1 => .new (.cells #[.int .i64 0, .int .i64 0, .string (bytesL []), .int .i64 0] 97 (0, 0)) (fun n2 => .store ⟨n2, 0, none⟩ (.int .i64 r1.1) (.store ⟨n2, 1, none⟩ (.int .i64 r1.2.1) (.store ⟨n2, 2, none⟩ (.string r1.2.2.1) (.store ⟨n2, 3, none⟩ (.int .i64 r1.2.2.2.1) (.load ⟨n2, 0, none⟩ (.int .i64) (fun x3 => .br (x3 == 1) (.callp 53 #[.pointer (some qa0)] (.one (.agg [.int .i64, .int .i64, .str, .int .i64])) (fun r4 => .load ⟨n2, 3, none⟩ (.int .i64) (fun x5 => .new (.cells #[.int .i64 x5] 204 (0, 0)) (fun n6 => .done (.returned (.iface 202 (.pointer (some ⟨n6, 0, none⟩))))))) (fun ch7 => .done (.panicked ch7))) (.load ⟨n2, 0, none⟩ (.int .i64) (fun x8 => .br (x8 == 3) (.callp 53 #[.pointer (some qa0)] (.one (.agg [.int .i64, .int .i64, .str, .int .i64])) (fun r9 => .load ⟨n2, 2, none⟩ .str (fun s10 => .new (.cells #[.string s10] 207 (0, 0)) (fun n11 => .done (.returned (.iface 205 (.pointer (some ⟨n11, 0, none⟩))))))) (fun ch12 => .done (.panicked ch12))) (.callp 51 #[.pointer (some qa0), .int .i64 4, .string (bytesL [40])] (.one (.leaf .bool)) (fun b13 => .br b13 (.callp 54 #[.pointer (some qa0), .int .i64 4, .string (bytesL [40])] (.tup []) (fun r14 => .callp 49 #[.pointer (some qa0)] (.one (.leaf .ifc)) (fun i15 => .callp 54 #[.pointer (some qa0), .int .i64 4, .string (bytesL [41])] (.tup []) (fun r16 => .done (.returned (.iface i15.1 i15.2))) (fun ch17 => .done (.panicked ch17))) (fun ch18 => .done (.panicked ch18))) (fun ch19 => .done (.panicked ch19))) (.callp 51 #[.pointer (some qa0), .int .i64 4, .string (bytesL [91])] (.one (.leaf .bool)) (fun b20 => .br b20 (.callp 142 #[.pointer (some qa0)] (.one (.leaf .ifc)) (fun i21 => .done (.returned (.iface i21.1 i21.2))) (fun ch22 => .done (.panicked ch22))) (.load ⟨n2, 0, none⟩ (.int .i64) (fun x23 => .br (x23 == 2) (.load ⟨n2, 2, none⟩ .str (fun s24 => .call 63 #[.string s24] (.tup [.agg [.str, .int .i64, .any], .leaf .bool]) (fun r25 => .new (.cells #[.string (bytesL []), .int .i64 0, .nilFunc] 120 (0, 0)) (fun n26 => .store ⟨n26, 0, none⟩ (.string r25.1.1) (.store ⟨n26, 1, none⟩ (.int .i64 r25.1.2.1) (.store ⟨n26, 2, none⟩ r25.fst.snd.snd.1 (.br r25.2.1 (.load ⟨n26, 0, none⟩ .str (fun s27 => .load ⟨n26, 1, none⟩ (.int .i64) (fun x28 => .load ⟨n26, 2, none⟩ .any (fun v29 => .callp 143 #[.pointer (some qa0), .agg #[.string s27, .int .i64 x28, v29]] (.one (.leaf .ifc)) (fun i30 => .done (.returned (.iface i30.1 i30.2))) (fun ch31 => .done (.panicked ch31)))))) (.loop (at_ Tryz.f127 [1, 1, 0, 0, 1, 1, 1, 1, 1, 1, 1, 1, 1, 0, 1, 1, 0, 0]) 82 (fx127_32 qa0 n2) [(61, .int .i64 0)] mx127_32 mr127_32 1 (fun u41 g41 => .load ⟨n2, 1, none⟩ (.int .i64) (fun x42 => .callx 48 #[.int .i64 36, .int .i64 x42] (fun ch43 => .done (.panicked ch43)))) (fun u44 g44 => .done (.returned (.iface u44.1.1 u44.fst.2))))))))))) (.load ⟨n2, 1, none⟩ (.int .i64) (fun x45 => .callx 48 #[.int .i64 36, .int .i64 x45] (fun ch46 => .done (.panicked ch46))))))) (fun ch47 => .done (.panicked ch47)))) (fun ch48 => .done (.panicked ch48)))))))))))) (fun ch49 => .done (.panicked ch49)) := by kernel_rfl
/-! the tree of function 142 -/
abbrev fx142_6 (qa0 : Addr) (n1 : Nat) : List (Tmp × Value) := [(0, .pointer (some qa0)), (3, .pointer (some ⟨n1, 0, none⟩))]
abbrev mx142_6 : List (Tmp × Comp) := []
def s142_6 : Script := .hd0 (.hq 0 (.hq 1 (.hq 2 (.hq 3 (.hq 5 (.hl 4 (.ld .sl (.he 6 (.clp (.one (.leaf .ifc)) (.he 7 (.he 8 (.rn (.one (.leaf .sl)) (.hq 9 (.hq 10 (.he 11 .nil)))))) .nil))) (.hl 6 (.clp (.one (.leaf .ifc)) (.hl 4 (.ld .sl (.he 7 (.he 8 (.rn (.one (.leaf .sl)) (.hq 9 (.hq 10 (.he 11 .nil))))))) (.hl 7 (.he 4 (.ld .sl (.he 8 (.rn (.one (.leaf .sl)) (.hq 9 (.hq 10 (.he 11 .nil))))))) .nil)) .nil) .nil)))))))
theorem t142_6 (qa0 : Addr) (n1 : Nat) (gg6 : Nat → Value) : pieceT Tryz.prog (at_ Tryz.f142 [1, 1, 1, 1, 0]) 52 (fx142_6 qa0 n1) gg6 (mx142_6.map (·.1)) [] [] s142_6 = .hdrawn (.both (.eff (.load ⟨n1, 0, none⟩ .sl (fun l7 => .back (.eff (.callp 49 #[.pointer (some qa0)] (.one (.leaf .ifc)) (fun i8 => .back (.eff (.new (.cells #[.iface i8.1 i8.2] 89 (0, 0)) (fun n9 => .back (.eff (.run (builtin .append #[225, 225] 225 #[false, false] #[.slice l7.1 l7.2.1 l7.2.2, .slice (some ⟨n9, 0, none⟩) 1 1]) (.one (.leaf .sl)) (fun l10 => .back (.eff (.store ⟨n1, 0, none⟩ (.slice l10.1 l10.2.1 l10.2.2) (.back (.undrawn (.fin .normal [])))))))))))) (fun ch11 => .done (.panicked ch11))))))) (.both (.eff (.callp 49 #[.pointer (some qa0)] (.one (.leaf .ifc)) (fun i12 => .back (.both (.eff (.load ⟨n1, 0, none⟩ .sl (fun l13 => .back (.eff (.new (.cells #[.iface i12.1 i12.2] 89 (0, 0)) (fun n14 => .back (.eff (.run (builtin .append #[225, 225] 225 #[false, false] #[.slice l13.1 l13.2.1 l13.2.2, .slice (some ⟨n14, 0, none⟩) 1 1]) (.one (.leaf .sl)) (fun l15 => .back (.eff (.store ⟨n1, 0, none⟩ (.slice l15.1 l15.2.1 l15.2.2) (.back (.undrawn (.fin .normal [])))))))))))))) (.both (.eff (.new (.cells #[.iface i12.1 i12.2] 89 (0, 0)) (fun n16 => .back (.eff (.load ⟨n1, 0, none⟩ .sl (fun l17 => .back (.eff (.run (builtin .append #[225, 225] 225 #[false, false] #[.slice l17.1 l17.2.1 l17.2.2, .slice (some ⟨n16, 0, none⟩) 1 1]) (.one (.leaf .sl)) (fun l18 => .back (.eff (.store ⟨n1, 0, none⟩ (.slice l18.1 l18.2.1 l18.2.2) (.back (.undrawn (.fin .normal [])))))))))))))) (.triv)))) (fun ch19 => .done (.panicked ch19)))) (.triv))) := by kernel_rfl
abbrev fx142_21 (qa0 : Addr) (n1 : Nat) (g20 : Nat → Value) : List (Tmp × Value) := [(0, .pointer (some qa0)), (2, g20 2), (3, .pointer (some ⟨n1, 0, none⟩))]
abbrev m142_21 : List (Tmp × Comp) := []
abbrev mx142_21 : List (Tmp × Comp) := []
abbrev mr142_21 : List (Tmp × Comp) := []
abbrev fx142_22 (qa0 : Addr) (n1 : Nat) : List (Tmp × Value) := [(0, .pointer (some qa0)), (3, .pointer (some ⟨n1, 0, none⟩))]
abbrev mx142_22 : List (Tmp × Comp) := [(34, .leaf .bool)]
def s142_22 : Script := .ld .sl (.sym (.lit (.clp (.one (.leaf .bool)) (.lit .nil) .nil)) (.lit (.lit .nil)))
theorem t142_22 (qa0 : Addr) (n1 : Nat) (gg22 : Nat → Value) : pieceT Tryz.prog (at_ Tryz.f142 [1, 1, 1, 1, 1, 0, 0, 0, 0, 0]) 52 (fx142_22 qa0 n1) gg22 (mx142_22.map (·.1)) [] [] s142_22 = .load ⟨n1, 0, none⟩ .sl (fun l23 => .br (Decidable.decide ((↑l23.snd.fst : Int) < 6)) (.callp 51 #[.pointer (some qa0), .int .i64 4, .string (bytesL [44])] (.one (.leaf .bool)) (fun b24 => .fin .normal [(34, .bool b24)]) (fun ch25 => .done (.panicked ch25))) (.fin .normal [(34, .bool false)])) := by kernel_rfl
def s142_21 : Script := .ct 1 [0, 3] mx142_22 (.sym (.clp (.one (.agg [.int .i64, .int .i64, .str, .int .i64])) (.hd0 (.hq 0 (.hq 1 (.hq 2 (.hq 3 (.hq 5 (.hl 4 (.ld .sl (.he 6 (.clp (.one (.leaf .ifc)) (.he 7 (.he 8 (.rn (.one (.leaf .sl)) (.hq 9 (.hq 10 (.he 11 .nil)))))) .nil))) (.hl 6 (.clp (.one (.leaf .ifc)) (.hl 4 (.ld .sl (.he 7 (.he 8 (.rn (.one (.leaf .sl)) (.hq 9 (.hq 10 (.he 11 .nil))))))) (.hl 7 (.he 4 (.ld .sl (.he 8 (.rn (.one (.leaf .sl)) (.hq 9 (.hq 10 (.he 11 .nil))))))) .nil)) .nil) .nil)))))))) .nil) .nil)
theorem t142_21 (qa0 : Addr) (n1 : Nat) (g20 : Nat → Value) (gg21 : Nat → Value) : pieceT Tryz.prog (at_ Tryz.f142 [1, 1, 1, 1, 1, 0, 0, 0]) 52 (fx142_21 qa0 n1 g20 ++ mvals m142_21 (())) gg21 (m142_21.map (·.1)) (mx142_21.map (·.1)) (mr142_21.map (·.1)) s142_21 = .cut (at_ Tryz.f142 [1, 1, 1, 1, 1, 0, 0, 0, 0, 0]) 52 (fx142_22 qa0 n1) mx142_22 (fun u26 g26 => .br u26.1 (.callp 53 #[.pointer (some qa0)] (.one (.agg [.int .i64, .int .i64, .str, .int .i64])) (fun r27 => .hdrawn (.both (.eff (.load ⟨n1, 0, none⟩ .sl (fun l28 => .back (.eff (.callp 49 #[.pointer (some qa0)] (.one (.leaf .ifc)) (fun i29 => .back (.eff (.new (.cells #[.iface i29.1 i29.2] 89 (0, 0)) (fun n30 => .back (.eff (.run (builtin .append #[225, 225] 225 #[false, false] #[.slice l28.1 l28.2.1 l28.2.2, .slice (some ⟨n30, 0, none⟩) 1 1]) (.one (.leaf .sl)) (fun l31 => .back (.eff (.store ⟨n1, 0, none⟩ (.slice l31.1 l31.2.1 l31.2.2) (.back (.undrawn (.fin .normal [])))))))))))) (fun ch32 => .done (.panicked ch32))))))) (.both (.eff (.callp 49 #[.pointer (some qa0)] (.one (.leaf .ifc)) (fun i33 => .back (.both (.eff (.load ⟨n1, 0, none⟩ .sl (fun l34 => .back (.eff (.new (.cells #[.iface i33.1 i33.2] 89 (0, 0)) (fun n35 => .back (.eff (.run (builtin .append #[225, 225] 225 #[false, false] #[.slice l34.1 l34.2.1 l34.2.2, .slice (some ⟨n35, 0, none⟩) 1 1]) (.one (.leaf .sl)) (fun l36 => .back (.eff (.store ⟨n1, 0, none⟩ (.slice l36.1 l36.2.1 l36.2.2) (.back (.undrawn (.fin .normal [])))))))))))))) (.both (.eff (.new (.cells #[.iface i33.1 i33.2] 89 (0, 0)) (fun n37 => .back (.eff (.load ⟨n1, 0, none⟩ .sl (fun l38 => .back (.eff (.run (builtin .append #[225, 225] 225 #[false, false] #[.slice l38.1 l38.2.1 l38.2.2, .slice (some ⟨n37, 0, none⟩) 1 1]) (.one (.leaf .sl)) (fun l39 => .back (.eff (.store ⟨n1, 0, none⟩ (.slice l39.1 l39.2.1 l39.2.2) (.back (.undrawn (.fin .normal [])))))))))))))) (.triv)))) (fun ch40 => .done (.panicked ch40)))) (.triv)))) (fun ch41 => .done (.panicked ch41))) (.fin (.exit 0) [])) := by kernel_rfl
def s142 : Script := .clp (.tup []) (.clp (.one (.leaf .bool)) (.sym (.clp (.tup []) .nil .nil) (.ct 0 [0, 3] mx142_6 (.lp 0 [0, 2, 3] [] mx142_21 mr142_21 (.clp (.tup []) .nil .nil) .nil))) .nil) .nil
theorem t142 (qa0 : Addr) : fnT Tryz.prog Tryz.f142 #[.pointer (some qa0)] s142 = .new (.cells #[.slice none 0 0] 227 (0, 0)) (fun n1 => .callp 54 #[.pointer (some qa0), .int .i64 4, .string (bytesL [91])] (.tup []) (fun r2 => .callp 51 #[.pointer (some qa0), .int .i64 4, .string (bytesL [93])] (.one (.leaf .bool)) (fun b3 => .br b3 (.callp 54 #[.pointer (some qa0), .int .i64 4, .string (bytesL [93])] (.tup []) (fun r4 => .done (.returned (.iface 224 (.pointer (some ⟨n1, 0, none⟩))))) (fun ch5 => .done (.panicked ch5))) (.cut (at_ Tryz.f142 [1, 1, 1, 1, 0]) 52 (fx142_6 qa0 n1) mx142_6 (fun u20 g20 => .loop (at_ Tryz.f142 [1, 1, 1, 1, 1, 0, 0, 0]) 52 (fx142_21 qa0 n1 g20) [] mx142_21 mr142_21 0 (fun u42 g42 => .callp 54 #[.pointer (some qa0), .int .i64 4, .string (bytesL [93])] (.tup []) (fun r43 => .done (.returned (.iface 224 (.pointer (some ⟨n1, 0, none⟩))))) (fun ch44 => .done (.panicked ch44))) (fun u45 g45 => .stuck)))) (fun ch46 => .done (.panicked ch46))) (fun ch47 => .done (.panicked ch47))) := by kernel_rfl
/-! the tree of function 143 -/
abbrev fx143_9 (qa0 : Addr) (n6 : Nat) (x8 : Int) : List (Tmp × Value) := [(0, .pointer (some qa0)), (4, .nilIface), (5, .pointer (some ⟨n6, 0, none⟩)), (18, .int .i64 x8)]
abbrev m143_9 : List (Tmp × Comp) := [(19, .leaf (.int .i64))]
abbrev mx143_9 : List (Tmp × Comp) := []
abbrev mr143_9 : List (Tmp × Comp) := []
abbrev fx143_10 (qa0 : Addr) (n6 : Nat) (x8 : Int) (x_19 : Int) : List (Tmp × Value) := [(0, .pointer (some qa0)), (5, .pointer (some ⟨n6, 0, none⟩)), (6, .int .i64 x_19), (18, .int .i64 x8), (19, .int .i64 x_19)]
abbrev mx143_10 : List (Tmp × Comp) := []
def s143_10 : Script := .sym (.clp (.tup []) .nil .nil) .nil
theorem t143_10 (qa0 : Addr) (n6 : Nat) (x8 : Int) (x_19 : Int) (gg10 : Nat → Value) : pieceT Tryz.prog (at_ Tryz.f143 [1, 1, 1, 1, 0, 1, 0, 0, 1, 1, 0, 0, 1, 0]) 42 (fx143_10 qa0 n6 x8 x_19) gg10 (mx143_10.map (·.1)) [] [] s143_10 = .br (Decidable.decide (x_19 > 0)) (.callp 54 #[.pointer (some qa0), .int .i64 4, .string (bytesL [44])] (.tup []) (fun r11 => .fin .normal []) (fun ch12 => .done (.panicked ch12))) (.fin .normal []) := by kernel_rfl
def s143_9 : Script := .sym (.ct 2 [0, 5, 6, 18, 19] mx143_10 (.hd0 (.hq 0 (.hq 1 (.hq 2 (.hq 3 (.hq 5 (.hl 4 (.ld .sl (.he 6 (.clp (.one (.leaf .ifc)) (.he 7 (.he 8 (.rn (.one (.leaf .sl)) (.hq 9 (.hq 10 (.he 11 .nil)))))) .nil))) (.hl 6 (.clp (.one (.leaf .ifc)) (.hl 4 (.ld .sl (.he 7 (.he 8 (.rn (.one (.leaf .sl)) (.hq 9 (.hq 10 (.he 11 .nil))))))) (.hl 7 (.he 4 (.ld .sl (.he 8 (.rn (.one (.leaf .sl)) (.hq 9 (.hq 10 (.he 11 .nil))))))) .nil)) .nil) .nil))))))))) .nil
theorem t143_9 (qa0 : Addr) (n6 : Nat) (x8 : Int) (x_19 : Int) (gg9 : Nat → Value) : pieceT Tryz.prog (at_ Tryz.f143 [1, 1, 1, 1, 0, 1, 0, 0]) 42 (fx143_9 qa0 n6 x8 ++ mvals m143_9 (x_19, ())) gg9 (m143_9.map (·.1)) (mx143_9.map (·.1)) (mr143_9.map (·.1)) s143_9 = .br (Decidable.decide (x_19 < x8)) (.cut (at_ Tryz.f143 [1, 1, 1, 1, 0, 1, 0, 0, 1, 1, 0, 0, 1, 0]) 42 (fx143_10 qa0 n6 x8 x_19) mx143_10 (fun u13 g13 => .hdrawn (.both (.eff (.load ⟨n6, 3, none⟩ .sl (fun l14 => .back (.eff (.callp 49 #[.pointer (some qa0)] (.one (.leaf .ifc)) (fun i15 => .back (.eff (.new (.cells #[.iface i15.1 i15.2] 89 (0, 0)) (fun n16 => .back (.eff (.run (builtin .append #[225, 225] 225 #[false, false] #[.slice l14.1 l14.2.1 l14.2.2, .slice (some ⟨n16, 0, none⟩) 1 1]) (.one (.leaf .sl)) (fun l17 => .back (.eff (.store ⟨n6, 3, none⟩ (.slice l17.1 l17.2.1 l17.2.2) (.back (.undrawn (.fin .normal [(19, .int .i64 (IntKind.i64.wrap (x_19 + 1)))])))))))))))) (fun ch18 => .done (.panicked ch18))))))) (.both (.eff (.callp 49 #[.pointer (some qa0)] (.one (.leaf .ifc)) (fun i19 => .back (.both (.eff (.load ⟨n6, 3, none⟩ .sl (fun l20 => .back (.eff (.new (.cells #[.iface i19.1 i19.2] 89 (0, 0)) (fun n21 => .back (.eff (.run (builtin .append #[225, 225] 225 #[false, false] #[.slice l20.1 l20.2.1 l20.2.2, .slice (some ⟨n21, 0, none⟩) 1 1]) (.one (.leaf .sl)) (fun l22 => .back (.eff (.store ⟨n6, 3, none⟩ (.slice l22.1 l22.2.1 l22.2.2) (.back (.undrawn (.fin .normal [(19, .int .i64 (IntKind.i64.wrap (x_19 + 1)))])))))))))))))) (.both (.eff (.new (.cells #[.iface i19.1 i19.2] 89 (0, 0)) (fun n23 => .back (.eff (.load ⟨n6, 3, none⟩ .sl (fun l24 => .back (.eff (.run (builtin .append #[225, 225] 225 #[false, false] #[.slice l24.1 l24.2.1 l24.2.2, .slice (some ⟨n23, 0, none⟩) 1 1]) (.one (.leaf .sl)) (fun l25 => .back (.eff (.store ⟨n6, 3, none⟩ (.slice l25.1 l25.2.1 l25.2.2) (.back (.undrawn (.fin .normal [(19, .int .i64 (IntKind.i64.wrap (x_19 + 1)))])))))))))))))) (.triv)))) (fun ch26 => .done (.panicked ch26)))) (.triv))))) (.fin (.exit 0) []) := by kernel_rfl
def s143 : Script := .clp (.one (.agg [.int .i64, .int .i64, .str, .int .i64])) (.ld .str (.ld (.int .i64) (.ld .any (.clp (.tup []) (.ld (.int .i64) (.lp 0 [0, 4, 5, 18] [19] mx143_9 mr143_9 (.clp (.tup []) .nil .nil) .nil)) .nil)))) .nil
theorem t143 (qa0 : Addr) (qs1_0 : ByteArray) (qx1_1 : Int) (qv1_2 : Value) : fnT Tryz.prog Tryz.f143 #[.pointer (some qa0), .agg #[.string qs1_0, .int .i64 qx1_1, qv1_2]] s143 = .new (.cells #[.string qs1_0, .int .i64 qx1_1, qv1_2] 120 (0, 0)) (fun n1 => .callp 53 #[.pointer (some qa0)] (.one (.agg [.int .i64, .int .i64, .str, .int .i64])) (fun r2 => .load ⟨n1, 0, none⟩ .str (fun s3 => .load ⟨n1, 1, none⟩ (.int .i64) (fun x4 => .load ⟨n1, 2, none⟩ .any (fun v5 => .new (.cells #[.string s3, .int .i64 x4, v5, .slice none 0 0] 230 (0, 0)) (fun n6 => .callp 54 #[.pointer (some qa0), .int .i64 4, .string (bytesL [40])] (.tup []) (fun r7 => .load ⟨n6, 1, none⟩ (.int .i64) (fun x8 => .loop (at_ Tryz.f143 [1, 1, 1, 1, 0, 1, 0, 0]) 42 (fx143_9 qa0 n6 x8) [(19, .int .i64 0)] mx143_9 mr143_9 0 (fun u27 g27 => .callp 54 #[.pointer (some qa0), .int .i64 4, .string (bytesL [41])] (.tup []) (fun r28 => .done (.returned (.iface 228 (.pointer (some ⟨n6, 0, none⟩))))) (fun ch29 => .done (.panicked ch29))) (fun u30 g30 => .stuck))) (fun ch31 => .done (.panicked ch31))))))) (fun ch32 => .done (.panicked ch32))) := by kernel_rfl
theorem plain_at {j : Nat} (hj : j < 5) : plainM[j]? = wordsM[j]? := by
  rcases (by omega : j = 0 ∨ j = 1 ∨ j = 2 ∨ j = 3 ∨ j = 4) with rfl | rfl | rfl | rfl | rfl <;> rfl
theorem atom_ok (s : ByteArray) (f : Nat) (hIH : ∀ lv, LvOk s f lv) : LvOk s (f + 1) .atom := by
  intro w b st hB hne
  have hd : prs s.size (f + 1) .atom st = bindR (peekB s.size st) fun t st =>
      if t.kind = 1 then .ok (.num t.num, dropB st)
      else if t.kind = 3 then .ok (.quo t.text, dropB st)
      else if isB t 4 sLp = true then bindR (wantB s.size 4 sLp st) fun _ st => bindR (prs s.size f .expr st) fun n st => bindR (wantB s.size 4 sRp st) fun _ st => .ok (n, st)
      else if isB t 4 sLb = true then prs s.size f .list st
      else if t.kind = 2 then (match findB t.text with
        | some i => prs s.size f (.call i) st
        | none => if plainM.contains t.text = true then .ok (.wrd t.text, dropB st) else .error (36, t.at_))
      else .error (36, t.at_) := rfl
  rw [hd] at hne ⊢
  show Calls Tryz.prog 127 #[.pointer (some ⟨b, 0, none⟩)] w _
  refine calls_of_fnT mixed Tryz.func127 (s := s127) ?_
  rw [t127]
  have hblt := hB.ps.lt
  refine stepR (Ch.refl _ _) hne (fun _ => peek_any w b s st hB.ps hB.gl hB.big hB.sz) ?_
  intro t st1 v w1 hp h1 hv P1 hne1
  obtain rfl : v = tokV t := hv
  have hpk := (peekB_again hp).1
  refine ⟨tokX t, rfl, tok_new fun n2 w2 h2 hn2 b2 => ?_⟩
  clear hd hne
  have H2 := h1.trans h2.no
  have P2 := P1.ch h2 (fun h => h)
  have hb1 : b < w1.heap.size := P1.lt
  have hn2b : n2 ≠ b := by omega
  have kp : ∀ {w'}, Ch (· = b) w2 w' → Blk w' n2 [.int .i64 (t.kind : Nat), .int .i64 (t.at_ : Nat), .string (bytesL t.text), .int .i64 (t.num : Nat)] tTok := fun h => Blk.ch b2 h (fun e : n2 = b => hn2b e)
  have hBG : ∀ {w' st'} (lv' : Lv), Ch (· = b) w2 w' → PsS w' b s st' → (∀ i, lv' = .call i → i < 14 ∧ ∃ t, peekB s.size st' = .ok (t, st')) → Beg w' b s lv' st' := fun lv' h hp' hl => hB.go (H2.trans h) hp' hl
  have hk : ∀ (k : Nat), (((t.kind : Nat) : Int) == (k : Int)) = decide (t.kind = k) := fun k => by
    by_cases h : t.kind = k
    · rw [h, decide_eq_true rfl]; exact beq_self_eq_true _
    · rw [decide_eq_false h, beq_eq_false_iff_ne]; omega
  refine ld_int (b2.cell 0) (br_both (fun e => ?_) fun e => ?_)
  · have e : t.kind = 1 := of_decide_eq_true ((hk 1).symm.trans e)
    rw [if_pos e]
    refine nextR (lv := .expr) (hBG .expr (Ch.refl _ _) P2 (fun i h => by cases h)) hpk fun w3 h3 P3 => ?_
    refine ld_int ((kp h3).cell 3) (nw fun w4 h4 z4 b4 => ⟨(H2.trans h3).trans h4.no, _, rfl, ?_, P3.ch h4 (fun h => h)⟩)
    show IsN _ _ _ _
    simp only [IsN]
    exact ⟨w3.heap.size, rfl, ⟨(H2.trans h3).size, by omega⟩, b4⟩
  have e1 : ¬ t.kind = 1 := of_decide_eq_false ((hk 1).symm.trans e)
  rw [if_neg e1] at hne1 ⊢
  refine ld_int (b2.cell 0) (br_both (fun e => ?_) fun e => ?_)
  · have e : t.kind = 3 := of_decide_eq_true ((hk 3).symm.trans e)
    rw [if_pos e]
    refine nextR (lv := .expr) (hBG .expr (Ch.refl _ _) P2 (fun i h => by cases h)) hpk fun w3 h3 P3 => ?_
    refine ld_str ((kp h3).cell 2) (nw fun w4 h4 z4 b4 => ⟨(H2.trans h3).trans h4.no, _, rfl, ?_, P3.ch h4 (fun h => h)⟩)
    show IsN _ _ _ _
    simp only [IsN]
    exact ⟨w3.heap.size, rfl, ⟨(H2.trans h3).size, by omega⟩, b4⟩
  have e3 : ¬ t.kind = 3 := of_decide_eq_false ((hk 3).symm.trans e)
  rw [if_neg e3] at hne1 ⊢
  refine isK (kind := 4) (text := sLp) (lv := .expr) (hBG .expr (Ch.refl _ _) P2 (fun i h => by cases h)) hpk fun w3 h3 P3 => ?_
  have H3 := H2.trans h3
  refine br_both (fun e => ?_) fun e => ?_
  · rw [if_pos e] at hne1 ⊢
    refine wantR (kind := 4) (text := sLp) (lv := .expr) H3 (hBG .expr h3 P3 (fun i h => by cases h)) (fun h => absurd h (by decide)) hne1 fun st4 w4 hX4 h4 P4 hne4 => ?_
    have H4 := H3.trans h4
    refine stepR H4 hne4 (fun h => hIH .expr w4 b _ (hBG .expr (h3.trans h4) P4 (fun i h => by cases h)) h) ?_
    intro a st5 v5 w5 hX5 h5 r5 P5 hne5
    obtain ⟨y5, rfl⟩ := IsN.ifc r5
    refine ⟨y5, rfl, ?_⟩
    have H5 := H4.trans h5
    have ho := prs_op f _ _ _ _ hX5
    rw [wantB_lp hX4] at ho
    refine wantR (kind := 4) (text := sRp) (lv := .expr) H5 (hBG .expr ((h3.trans h4).trans h5) P5 (fun i h => by cases h)) (fun _ => by omega) hne5 fun st6 w6 hX6 h6 P6 hne6 => ?_
    refine ⟨H5.trans h6, _, rfl, ?_, P6⟩
    exact r5.keep (w0 := w) H4.size P4.lt h6
  have e4 : ¬ isB t 4 sLp = true := fun h => by rw [h] at e; cases e
  rw [if_neg e4] at hne1 ⊢
  refine isK (kind := 4) (text := sLb) (lv := .expr) (hBG .expr h3 P3 (fun i h => by cases h)) hpk fun w4 h4 P4 => ?_
  have H4 := H3.trans h4
  refine br_both (fun e => ?_) fun e => ?_
  · rw [if_pos e] at hne1 ⊢
    refine lastR H4 (hIH .list w4 b st1 (hBG .list (h3.trans h4) P4 (fun i h => by cases h)) hne1) ?_
    intro n st5 v w5 hX h5 hr P5
    obtain ⟨y, rfl⟩ := IsN.ifc hr
    exact ⟨y, rfl, H4.trans h5, _, rfl, hr.no (w0 := w) H4.size (Ch.refl No _), P5⟩
  have e5 : ¬ isB t 4 sLb = true := fun h => by rw [h] at e; cases e
  rw [if_neg e5] at hne1 ⊢
  have b4 := kp (h3.trans h4)
  refine ld_int (b4.cell 0) (br_both (fun e => ?_) fun e => ?_)
  · have e : t.kind = 2 := of_decide_eq_true ((hk 2).symm.trans e)
    rw [if_pos e] at hne1 ⊢
    refine ld_str (b4.cell 2) (cl_i (find_any w4 (bytesL t.text)) ?_)
    rintro e w5 ⟨h5, hf⟩
    rw [tb_data] at hf
    have P5 := P4.ch h5 (fun h => h)
    have hn4 : n2 < w4.heap.size := b4.lt
    have hb4 : b < w4.heap.size := P4.lt
    have hs5 := h5.size
    cases hq : findB t.text with
    | some i =>
      rw [hq] at hf hne1
      obtain ⟨hi, hnm, rfl⟩ := hf
      refine ⟨((bytesL (nameB i), (takesB i : Nat), doV i, ()), true, ()), rfl, ?_⟩
      refine nw fun w6 h6 z6 b6 => st_blk b6 (by simp) rfl fun w7 h7 z7 b7 => st_blk b7 (by simp) rfl fun w8 h8 z8 b8 => st_blk b8 (by simp) rfl fun w9 h9 z9 b9 => ?_
      have h69 := h7.trans (h8.trans h9)
      have H9 : Ch (· = b) w w9 := (H4.trans (h5.no.trans h6.no)).then_ h69 (fun i hi (e : i = w5.heap.size) => by have := H4.size; omega)
      have P9 := (P5.ch h6 (fun h => h)).ch h69 (fun e : b = w5.heap.size => by omega)
      refine br_true rfl (ld_str (b9.cell 0) (ld_int (b9.cell 1) (ld_any (b9.cell 2) ?_)))
      refine lastR H9 (hIH (.call i) w9 b st1 (hB.go H9 P9 (fun j e => by cases e; exact ⟨hi, t, hpk⟩)) hne1) ?_
      intro n st10 v w10 hX h10 hr P10
      obtain ⟨y, rfl⟩ := IsN.ifc hr
      exact ⟨y, rfl, H9.trans h10, _, rfl, hr.no (w0 := w) H9.size (Ch.refl No _), P10⟩
    | none =>
      rw [hq] at hf hne1
      subst hf
      refine ⟨((bytesL [], 0, .nilFunc, ()), false, ()), rfl, ?_⟩
      refine nw fun w6 h6 z6 b6 => st_blk b6 (by simp) rfl fun w7 h7 z7 b7 => st_blk b7 (by simp) rfl fun w8 h8 z8 b8 => st_blk b8 (by simp) rfl fun w9 h9 z9 b9 => ?_
      have h69 := h7.trans (h8.trans h9)
      have H9 : Ch (· = b) w w9 := (H4.trans (h5.no.trans h6.no)).then_ h69 (fun i hi (e : i = w5.heap.size) => by have := H4.size; omega)
      have P9 := (P5.ch h6 (fun h => h)).ch h69 (fun e : b = w5.heap.size => by omega)
      have B9 := ((b4.ch h5 (fun h => h)).ch h6 (fun h => h)).ch h69 (fun e : n2 = w5.heap.size => by omega)
      refine br_false rfl ?_
      have G9 : GlE w9 := (hB.go (lv' := .expr) H9 P9 (fun i h => by cases h)).gl
      refine loop_i mixed m127_32 s127_32 (by kernel_rfl) (by kernel_rfl)
        (fun (v : Int × Unit) w' => ∃ k : Nat, v.1 = (k : Nat) ∧ k ≤ 5 ∧ Ch No w9 w' ∧ ∀ m u, m < k → plainM[m]? = some u → u ≠ t.text)
        (fun (v : Int × Unit) _ => 5 - v.1.toNat) (0, ()) rfl ⟨0, rfl, by omega, Ch.refl _ _, fun m u hm => by omega⟩ ?_
      rintro ⟨_, ⟨⟩⟩ gg w10 ⟨k, rfl, hk5, h10, hno⟩
      rw [t127_32]
      have B10 := B9.ch h10 (fun h => h)
      have G10 := G9.no h10
      have P10 := P9.ch h10 (fun h => h)
      refine br_both (fun e => ?_) fun e => ?_
      · have e : (k : Int) < 5 := lt_t e
        have hk' : k < 5 := by omega
        have hlen : plainM.length = 5 := rfl
        obtain ⟨u, hu⟩ : ∃ u, plainM[k]? = some u := ⟨plainM[k]'(by omega), List.getElem?_eq_getElem (by omega)⟩
        have hcell : ∀ {w'}, GlE w' → w'.cell? ((⟨2, 0, none⟩ : Addr).add (((k : Nat) : Int).toNat * 1)) = some (.string (bytesL u)) := fun G => by
          rw [addr_add, Int.toNat_natCast, Nat.zero_add, Nat.mul_one]
          exact G.words k u (by rw [← plain_at hk', hu])
        have hd10 := (Ch.refl No w10).drew
        have G11 := G10.no hd10
        refine dr_eq (ix_i (by omega) (by omega) (lq_str (hcell G11) (lq_str ((B10.ch hd10 (fun h => h)).cell 2) (un_eq ?_))))
        have h11 := h10.trans hd10
        have P11 := P10.ch hd10 (fun h => h)
        generalize w10.drew = w11 at *
        refine br_both (fun e1 => ?_) fun e1 => ?_
        · have e1 : u = t.text := by rw [tb_list, tb_list] at e1; simpa using e1
          have H11 := H9.trans h11.no
          refine nextR (lv := .expr) (hB.go H11 P11 (fun i h => by cases h)) hpk fun w12 h12 P12 => ?_
          have G12 : GlE w12 := (hB.go (lv' := .expr) (H11.trans h12) P12 (fun i h => by cases h)).gl
          refine ix_i (by omega) (by omega) (ld_str (hcell G12) (nw fun w13 h13 z13 b13 => ⟨((_, _), ()), rfl, fun g => ⟨(H11.trans h12).trans h13.no, ?_⟩⟩))
          dsimp only
          rw [if_pos (List.contains_iff_mem.2 (e1 ▸ List.mem_of_getElem? hu))]
          refine ⟨_, rfl, ?_, P12.ch h13 (fun h => h)⟩
          show IsN _ _ _ _
          simp only [IsN]
          refine ⟨w12.heap.size, rfl, ⟨(H11.trans h12).size, by omega⟩, ?_⟩
          rw [← e1]
          exact b13
        · have hne' : u ≠ t.text := by rw [tb_list, tb_list] at e1; simpa using e1
          refine ⟨((IntKind.i64.wrap ((k : Int) + 1)), ()), rfl, ⟨k + 1, wrap_succ (by omega) (by omega), by omega, h11, fun m u' hm hu' => ?_⟩, ?_⟩
          · rcases (by omega : m < k ∨ m = k) with h | rfl
            · exact hno m u' h hu'
            · rw [hu] at hu'
              obtain rfl := Option.some.inj hu'
              exact hne'
          · show 5 - (IntKind.i64.wrap ((k : Int) + 1)).toNat < 5 - ((k : Nat) : Int).toNat
            rw [wrap_succ (by omega) (by omega)]
            omega
      · have e : (5 : Int) ≤ (k : Int) := lt_f e
        refine ⟨rfl, (), rfl, fun g => ?_⟩
        refine ld_int (B10.cell 1) (cx_i (giveUp_any _ _ w10) ?_)
        rintro r w11 ⟨h11, fb, f1, rfl, f3⟩
        refine ⟨_, rfl, (H9.trans h10.no).trans h11.no, ?_⟩
        dsimp only
        rw [if_neg (fun h => by
          obtain ⟨m, hm, e⟩ := List.getElem_of_mem (List.contains_iff_mem.1 h)
          have hlen : plainM.length = 5 := rfl
          exact hno m t.text (by omega) (by rw [List.getElem?_eq_getElem hm, e]) rfl)]
        exact ⟨fb, Nat.le_trans (H9.trans h10.no).size f1, rfl, f3⟩
  have e6 : ¬ t.kind = 2 := of_decide_eq_false ((hk 2).symm.trans e)
  rw [if_neg e6]
  refine ld_int (b4.cell 1) (cx_i (giveUp_any _ _ w4) ?_)
  rintro r w5 ⟨h5, fb, f1, rfl, f3⟩
  exact ⟨_, rfl, H4.trans h5.no, fb, Nat.le_trans H4.size f1, rfl, f3⟩
/-- The length of the slice at a place. -/
def lenAt (w : World) (a : Addr) : Nat := match w.cell? a with
  | some (.slice _ n _) => n
  | _ => 0
theorem list_ok (s : ByteArray) (f : Nat) (hIH : ∀ lv, LvOk s f lv) : LvOk s (f + 1) .list := by
  intro w b st hB hne
  have hd : prs s.size (f + 1) .list st = bindR (wantB s.size 4 sLb st) fun _ st => bindR (peekB s.size st) fun t st =>
      if isB t 4 sRb = true then bindR (wantB s.size 4 sRb st) fun _ st => .ok (.lst [], st)
      else bindR (prs s.size f .expr st) fun n st => bindR (itemsB s.size (prs s.size f .expr) f [n] st) fun l st => bindR (wantB s.size 4 sRb st) fun _ st => .ok (.lst l, st) := rfl
  rw [hd] at hne ⊢
  show Calls Tryz.prog 142 #[.pointer (some ⟨b, 0, none⟩)] w _
  refine calls_of_fnT mixed Tryz.func142 (s := s142) ?_
  rw [t142]
  have hblt := hB.ps.lt
  refine nw fun w1 h1 z1 b1 => ?_
  have hn1 : w.heap.size ≠ b := by omega
  generalize hnn : w.heap.size = n1 at *
  have P1 := hB.ps.ch h1 (fun h => h)
  have hBG : ∀ {w' st'} (lv' : Lv), Ch (· = b) w w' → PsS w' b s st' → (∀ i, lv' ≠ .call i) → Beg w' b s lv' st' := fun lv' h hp' hl => hB.go h hp' (fun i e => absurd e (hl i))
  refine wantR (kind := 4) (text := sLb) (lv := .expr) h1.no (hBG .expr h1.no P1 (by simp)) (fun h => absurd h (by decide)) hne fun st2 w2 hX2 h2 P2 hne2 => ?_
  have H2 := h1.no.trans h2
  have ho2 := wantB_lb hX2
  have b2 := b1.ch h2 (fun e : n1 = b => hn1 e)
  refine isR (kind := 4) (text := sRb) H2 (hBG .expr H2 P2 (by simp)) fun t st3 w3 hp3 h3 P3 hg => ?_
  rw [← hg] at hne2
  have H3 := H2.trans h3
  have b3 := b2.ch h3 (fun e : n1 = b => hn1 e)
  have ho3 := peekB_op hp3
  have hs3 := H3.size
  have hs1 : w1.heap.size ≤ w3.heap.size := (h2.trans h3).size
  refine br_both (fun e => ?_) fun e => ?_
  · rw [if_pos e] at hne2 ⊢
    refine wantR (kind := 4) (text := sRb) (lv := .expr) H3 (hBG .expr H3 P3 (by simp)) (fun _ => by omega) hne2 fun st4 w4 hX4 h4 P4 hne4 => ?_
    have b4 := b3.ch h4 (fun e : n1 = b => hn1 e)
    refine ⟨H3.trans h4, _, rfl, ?_, P4⟩
    show IsN _ _ _ _
    simp only [IsN]
    exact ⟨n1, none, 0, 0, [], rfl, ⟨by omega, b4.lt⟩, b4, rfl, Nat.le_refl _, by omega, fun h => by omega, rfl⟩
  have e1 : ¬ isB t 4 sRb = true := fun h => by rw [h] at e; cases e
  rw [if_neg e1] at hne2 ⊢
  generalize hXd : (bindR (prs s.size f .expr st3) fun n st => bindR (itemsB s.size (prs s.size f .expr) f [n] st) fun l st => bindR (wantB s.size 4 sRb st) fun _ st => (.ok (.lst l, st) : R N)) = X at *
  have hX3 : prs s.size f .expr st3 ≠ .error (0, 0) := fun h => hne2 (by rw [← hXd, h]; rfl)
  have hd3 := (Ch.refl No w3).drew
  refine cut_i mixed s142_6 (fun (_ : Unit) w' => ∃ a st4 p c, prs s.size f .expr st3 = .ok (a, st4) ∧ Ch (fun k => k = b ∨ n1 ≤ k) w3 w' ∧ PsS w' b s st4 ∧ Blk w' n1 [.slice p 1 c] 227 ∧ Its (n1 + 1) w' p 1 c [a]) (by kernel_rfl) (fun g => ?_) ?_
  · rw [t142_6]
    refine itm_i (lo := n1 + 1) (acc := []) (n := 0) (c := 0) (p := none) (Nat.lt_succ_self n1) (by omega) b3 rfl (Its.nil _ _) (by omega) (by omega) (hIH .expr w3.drew b st3 (hBG .expr (H3.trans hd3.no) (P3.ch hd3 (fun h => h)) (by simp)) hX3) ?_ ?_
    · intro a st4 w4 p4 c4 hr h4 P4 b4 I4
      exact ⟨rfl, (), rfl, a, st4, p4, c4, hr, h4, P4, b4, I4⟩
    · intro c e w4 hr h4 ht
      rw [← hXd, hr]
      exact PostR.err H3 h4 ht
  rintro ⟨⟩ g w4 ⟨a, st4, p4, c4, hr4, h4, P4, b4, I4⟩
  have ho4 := prs_op f _ _ _ _ hr4
  have toW : ∀ {w'}, Ch (fun k => k = b ∨ n1 ≤ k) w3 w' → Ch (· = b) w w' := fun h => H3.then_ h (fun i hi h => by rcases h with h | h; exact h; omega)
  have hXd4 : X = bindR (itemsB s.size (prs s.size f .expr) f [a] st4) fun l st => bindR (wantB s.size 4 sRb st) fun _ st => (.ok (.lst l, st) : R N) := by rw [← hXd, hr4]; rfl
  clear hXd
  refine loop_i mixed m142_21 s142_21 (by kernel_rfl) (by kernel_rfl)
    (fun (_ : Unit) w' => ∃ (acc : List N) (m : Nat) (stx : PS) (p : Option Addr) (c : Nat), acc.length ≤ 6 ∧ Ch (fun k => k = b ∨ n1 ≤ k) w3 w' ∧ PsS w' b s stx ∧ Blk w' n1 [.slice p acc.length c] 227 ∧ Its (n1 + 1) w' p acc.length c acc ∧ stx.op = st4.op ∧
      X = bindR (itemsB s.size (prs s.size f .expr) m acc stx) fun l st => bindR (wantB s.size 4 sRb st) fun _ st => (.ok (.lst l, st) : R N))
    (fun (_ : Unit) w' => 7 - lenAt w' ⟨n1, 0, none⟩) () rfl ⟨[a], f, st4, p4, c4, by simp, h4, P4, b4, I4, rfl, hXd4⟩ ?_
  rintro ⟨⟩ g1 w5 ⟨acc, m, stx, p, c, hl6, h5, P5, b5, I5, ho5, hX5⟩
  rw [t142_21]
  have H5 := toW h5
  have hm5 : lenAt w5 ⟨n1, 0, none⟩ = acc.length := by unfold lenAt; rw [b5.cell]; rfl
  have hs5 : n1 < w5.heap.size := b5.lt
  cases m with
  | zero => exact absurd (by rw [hX5]; rfl) hne2
  | succ m =>
  have hit : itemsB s.size (prs s.size f .expr) (m + 1) acc stx = if acc.length < 6 then bindR (peekB s.size stx) fun t st =>
        if isB t 4 sCom = true then bindR (prs s.size f .expr (dropB st)) fun n st => itemsB s.size (prs s.size f .expr) m (acc ++ [n]) st else .ok (acc, st)
      else .ok (acc, stx) := rfl
  refine cut_i mixed s142_22 (fun (v : Bool × Unit) w' => ∃ sty, Ch (· = b) w5 w' ∧ PsS w' b s sty ∧ sty.op = st4.op ∧ ((v.1 = true ∧ acc.length < 6 ∧ (∃ t, peekB s.size sty = .ok (t, sty)) ∧ X = bindR (bindR (prs s.size f .expr (dropB sty)) fun n st => itemsB s.size (prs s.size f .expr) m (acc ++ [n]) st) fun l st => bindR (wantB s.size 4 sRb st) fun _ st => (.ok (.lst l, st) : R N)) ∨ (v.1 = false ∧ X = bindR (wantB s.size 4 sRb sty) fun _ st => (.ok (.lst acc, st) : R N)))) (by kernel_rfl) (fun g => ?_) ?_
  · rw [t142_22]
    refine ld_sl (b5.cell 0) (br_both (fun e => ?_) fun e => ?_)
    · have e : (acc.length : Int) < 6 := lt_t e
      have hlt : acc.length < 6 := by omega
      rw [if_pos hlt] at hit
      refine cpR (is_any w5 b s stx 4 sCom P5 (hBG .expr H5 P5 (by simp)).gl hB.big hB.sz) ?_ ?_
      · intro x st6 v w6 hr h6 hv P6
        obtain rfl : v = .bool x := hv
        cases hp : peekB s.size stx with
        | error c => rw [hp] at hr; cases hr
        | ok y =>
        obtain ⟨t6, st6'⟩ := y
        rw [hp] at hr hit
        simp only [bindR, Except.ok.injEq, Prod.mk.injEq] at hr
        obtain ⟨rfl, rfl⟩ := hr
        refine ⟨_, rfl, rfl, (_, ()), rfl, st6', h6, P6, by rw [peekB_op hp, ho5], ?_⟩
        by_cases hc : isB t6 4 sCom = true
        · refine .inl ⟨hc, hlt, ⟨t6, (peekB_again hp).1⟩, ?_⟩
          rw [hX5, hit]
          simp only [bindR, hc, if_true]
        · refine .inr ⟨(Bool.not_eq_true _).mp hc, ?_⟩
          rw [hX5, hit]
          simp only [bindR, hc, Bool.false_eq_true, if_false]
      · intro c' e w6 hr h6 ht
        cases hp : peekB s.size stx with
        | ok y => rw [hp] at hr; simp [bindR] at hr
        | error c2 =>
          rw [hp] at hr hit
          obtain rfl : c2 = c' := by simpa [bindR] using hr
          rw [hX5, hit]
          exact PostR.err H5 h6 ht
    · have e : (6 : Int) ≤ (acc.length : Int) := lt_f e
      rw [if_neg (by omega)] at hit
      refine ⟨rfl, (false, ()), rfl, stx, Ch.refl _ _, P5, ho5, .inr ⟨rfl, ?_⟩⟩
      rw [hX5, hit]
      rfl
  rintro ⟨u, ⟨⟩⟩ g w6 ⟨sty, h6, P6, ho6, hu⟩
  have b6 := b5.ch h6 (fun e : n1 = b => hn1 e)
  have I6 := I5.ch h6 (fun k hk (e : k = b) => by omega)
  have H6 := H5.trans h6
  have h36 : Ch (fun k => k = b ∨ n1 ≤ k) w3 w6 := h5.trans (h6.mono fun k h => .inl h)
  refine br_both (fun e => ?_) fun e => ?_
  · have e : u = true := e
    rcases hu with ⟨_, hlt, ⟨t6, hp6⟩, hX6⟩ | ⟨hu, _⟩
    · refine nextR (lv := .expr) (hBG .expr H6 P6 (by simp)) hp6 fun w7 h7 P7 => ?_
      have b7 := b6.ch h7 (fun e : n1 = b => hn1 e)
      have I7 := I6.ch h7 (fun k hk (e : k = b) => by omega)
      have H7 := H6.trans h7
      have hd7 := (Ch.refl No w7).drew
      have hs7 : n1 < w7.heap.size := b7.lt
      have hX7 : prs s.size f .expr (dropB sty) ≠ .error (0, 0) := fun h => hne2 (by rw [hX6, h]; rfl)
      refine itm_i (lo := n1 + 1) (Nat.lt_succ_self n1) (by omega) b7 rfl I7 (by omega) (by omega) (hIH .expr w7.drew b _ (hBG .expr (H7.trans hd7.no) (P7.ch hd7 (fun h => h)) (by simp)) hX7) ?_ ?_
      · intro a' st8 w8 p8 c8 hr h8 P8 b8 I8
        have hla : (acc ++ [a']).length = acc.length + 1 := by simp
        refine ⟨(), rfl, ⟨acc ++ [a'], m, st8, p8, c8, by omega, (h36.trans (h7.mono fun k h => .inl h)).trans h8, P8, by rw [hla]; exact b8, by rw [hla]; exact I8, ?_, by rw [hX6, hr]; rfl⟩, ?_⟩
        · rw [prs_op f _ _ _ _ hr]; exact ho6
        · show 7 - lenAt w8 _ < 7 - lenAt w5 _
          rw [hm5]
          have : lenAt w8 ⟨n1, 0, none⟩ = acc.length + 1 := by unfold lenAt; rw [b8.cell]; rfl
          rw [this]
          omega
      · intro c' e w8 hr h8 ht
        rw [hX6, hr]
        exact PostR.err H7 h8 ht
    · rw [e] at hu; cases hu
  · have e : u = false := e
    rcases hu with ⟨hu, _⟩ | ⟨_, hX6⟩
    · rw [e] at hu; cases hu
    · refine ⟨rfl, (), rfl, fun g => ?_⟩
      rw [hX6]
      refine wantR (kind := 4) (text := sRb) (lv := .expr) H6 (hBG .expr H6 P6 (by simp)) (fun _ => by omega) (by rw [← hX6]; exact hne2) fun st7 w7 hX7 h7 P7 hne7 => ?_
      have b7 := b6.ch h7 (fun e : n1 = b => hn1 e)
      have I7 := I6.ch h7 (fun k hk (e : k = b) => by omega)
      refine ⟨H6.trans h7, _, rfl, ?_, P7⟩
      obtain ⟨vs, v1, v2, v3, v4, v5⟩ := I7.out (B := New w w7) (fun k hk hk' => ⟨by omega, hk'⟩)
      show IsN _ _ _ _
      simp only [IsN]
      exact ⟨n1, p, _, c, vs, rfl, ⟨by omega, b7.lt⟩, b7, v1, v2, v3, v4, v5⟩
theorem call_ok (s : ByteArray) (f : Nat) (hIH : ∀ lv, LvOk s f lv) (i : Nat) : LvOk s (f + 1) (.call i) := by
  intro w b st hB hne
  have hd : prs s.size (f + 1) (.call i) st = bindR (peekB s.size st) fun _ st => bindR (wantB s.size 4 sLp (dropB st)) fun _ st => bindR (argsB s.size (prs s.size f .expr) (takesB i) [] st) fun l st => bindR (wantB s.size 4 sRp st) fun _ st => .ok (.cal i l, st) := rfl
  rw [hd] at hne ⊢
  obtain ⟨hi14, t0, hp0⟩ := hB.cal i rfl
  show Calls Tryz.prog 143 #[.pointer (some ⟨b, 0, none⟩), .agg #[.string (bytesL (nameB i)), .int .i64 (takesB i : Nat), doV i]] w _
  refine calls_of_fnT mixed Tryz.func143 (s := s143) ?_
  rw [t143]
  have hblt := hB.ps.lt
  have htk : takesB i ≤ 3 := by
    have : ∀ i, i < 14 → takesB i ≤ 3 := by decide
    exact this i hi14
  refine nw fun w1 h1 z1 b1 => ?_
  have P1 := hB.ps.ch h1 (fun h => h)
  have hBG : ∀ {w' st'} (lv' : Lv), Ch (· = b) w w' → PsS w' b s st' → (∀ i, lv' ≠ .call i) → Beg w' b s lv' st' := fun lv' h hp' hl => hB.go h hp' (fun i e => absurd e (hl i))
  rw [hp0] at hne ⊢
  refine nextR (lv := .expr) (hBG .expr h1.no P1 (by simp)) hp0 fun w2 h2 P2 => ?_
  have H2 := h1.no.trans h2
  have b2 := b1.ch h2 (fun e : w.heap.size = b => by omega)
  refine ld_str (b2.cell 0) (ld_int (b2.cell 1) (ld_any (b2.cell 2) (nw fun w3 h3 z3 b3 => ?_)))
  have hs2 := H2.size
  have hn1 : w2.heap.size ≠ b := by omega
  have hn1w : w.heap.size ≤ w2.heap.size := hs2
  generalize hnn : w2.heap.size = n1 at *
  have P3 := P2.ch h3 (fun h => h)
  have H3 := H2.trans h3.no
  refine wantR (kind := 4) (text := sLp) (lv := .expr) H3 (hBG .expr H3 P3 (by simp)) (fun h => absurd h (by decide)) hne fun st4 w4 hX4 h4 P4 hne4 => ?_
  have H4 := H3.trans h4
  have ho4 := wantB_lp hX4
  have b4 := b3.ch h4 (fun e : n1 = b => hn1 e)
  generalize hXd : (bindR (argsB s.size (prs s.size f .expr) (takesB i) [] st4) fun l st => bindR (wantB s.size 4 sRp st) fun _ st => (.ok (.cal i l, st) : R N)) = X at *
  refine ld_int (b4.cell 1) ?_
  have toW : ∀ {w'}, Ch (fun k => k = b ∨ n1 ≤ k) w4 w' → Ch (· = b) w w' := fun h => H4.then_ h (fun i hi h => by rcases h with h | h; exact h; omega)
  have hb4 : b < n1 := by have := hblt; omega
  refine loop_i mixed m143_9 s143_9 (by kernel_rfl) (by kernel_rfl)
    (fun (v : Int × Unit) w' => ∃ (acc : List N) (stx : PS) (p : Option Addr) (c : Nat), v.1 = (acc.length : Nat) ∧ acc.length ≤ takesB i ∧ Ch (fun k => k = b ∨ n1 ≤ k) w4 w' ∧ PsS w' b s stx ∧ Blk w' n1 [.string (bytesL (nameB i)), .int .i64 (takesB i : Nat), doV i, .slice p acc.length c] 230 ∧ Its (n1 + 1) w' p acc.length c acc ∧ stx.op = st4.op ∧
      X = bindR (argsB s.size (prs s.size f .expr) (takesB i - acc.length) acc stx) fun l st => bindR (wantB s.size 4 sRp st) fun _ st => (.ok (.cal i l, st) : R N))
    (fun (v : Int × Unit) _ => 7 - v.1.toNat) (0, ()) rfl ⟨[], st4, none, 0, rfl, Nat.zero_le _, Ch.refl _ _, P4, b4, Its.nil _ _, rfl, hXd.symm⟩ ?_
  rintro ⟨_, ⟨⟩⟩ g1 w5 ⟨acc, stx, p, c, rfl, hla, h5, P5, b5, I5, ho5, hX5⟩
  rw [t143_9]
  have H5 := toW h5
  have hs5 : n1 < w5.heap.size := b5.lt
  refine br_both (fun e => ?_) fun e => ?_
  · have e : (acc.length : Int) < (takesB i : Int) := lt_t e
    obtain ⟨m, hm⟩ : ∃ m, takesB i - acc.length = m + 1 := ⟨takesB i - acc.length - 1, by omega⟩
    have hit : argsB s.size (prs s.size f .expr) (m + 1) acc stx = bindR (if acc = [] then .ok ((), stx) else wantB s.size 4 sCom stx) fun _ st => bindR (prs s.size f .expr st) fun n st => argsB s.size (prs s.size f .expr) m (acc ++ [n]) st := rfl
    rw [hm, hit] at hX5
    refine cut_i mixed s143_10 (fun (_ : Unit) w' => ∃ sty, Ch (· = b) w5 w' ∧ PsS w' b s sty ∧ sty.op = st4.op ∧ X = bindR (bindR (prs s.size f .expr sty) fun n st => argsB s.size (prs s.size f .expr) m (acc ++ [n]) st) fun l st => bindR (wantB s.size 4 sRp st) fun _ st => (.ok (.cal i l, st) : R N)) (by kernel_rfl) (fun g => ?_) ?_
    · rw [t143_10]
      refine br_both (fun e => ?_) fun e => ?_
      · have e : (0 : Int) < (acc.length : Int) := gt_t e
        have hnn' : ¬ acc = [] := fun h => by rw [h] at e; simp at e
        rw [if_neg hnn'] at hX5
        refine cpR (want_any w5 b s stx 4 sCom P5 (hBG .expr H5 P5 (by simp)).gl hB.big hB.sz (fun h => absurd h (by decide))) ?_ ?_
        · intro u st6 v w6 hr h6 hv P6
          obtain rfl : v = .tuple #[] := hv
          refine ⟨(), rfl, rfl, (), rfl, st6, h6, P6, by rw [wantB_com hr, ho5], ?_⟩
          rw [hX5, hr]
          rfl
        · intro c' e w6 hr h6 ht
          rw [hX5, hr]
          exact PostR.err H5 h6 ht
      · have e : (acc.length : Int) ≤ 0 := gt_f e
        have hnn' : acc = [] := List.eq_nil_of_length_eq_zero (by omega)
        rw [if_pos hnn'] at hX5
        exact ⟨rfl, (), rfl, stx, Ch.refl _ _, P5, ho5, hX5⟩
    rintro ⟨⟩ g w6 ⟨sty, h6, P6, ho6, hX6⟩
    have b6 := b5.ch h6 (fun e : n1 = b => hn1 e)
    have I6 := I5.ch h6 (fun k hk (e : k = b) => by omega)
    have H6 := H5.trans h6
    have hd6 := (Ch.refl No w6).drew
    have hs6 : n1 < w6.heap.size := b6.lt
    have hX7 : prs s.size f .expr sty ≠ .error (0, 0) := fun h => hne4 (by rw [hX6, h]; rfl)
    refine itm_i (lo := n1 + 1) (Nat.lt_succ_self n1) hb4 b6 rfl I6 (by omega) (by omega) (hIH .expr w6.drew b _ (hBG .expr (H6.trans hd6.no) (P6.ch hd6 (fun h => h)) (by simp)) hX7) ?_ ?_
    · intro a' st8 w8 p8 c8 hr h8 P8 b8 I8
      have hla' : (acc ++ [a']).length = acc.length + 1 := by simp
      refine ⟨((IntKind.i64.wrap ((acc.length : Int) + 1)), ()), rfl, ⟨acc ++ [a'], st8, p8, c8, ?_, by omega, (h5.trans (h6.mono fun k h => .inl h)).trans h8, P8, by rw [hla']; exact b8, by rw [hla']; exact I8, ?_, ?_⟩, ?_⟩
      · rw [hla']; exact wrap_succ (by omega) (by omega)
      · rw [prs_op f _ _ _ _ hr]; exact ho6
      · rw [hX6, hr, show takesB i - (acc ++ [a']).length = m by omega]; rfl
      · show 7 - (IntKind.i64.wrap ((acc.length : Int) + 1)).toNat < 7 - ((acc.length : Nat) : Int).toNat
        rw [wrap_succ (by omega) (by omega)]
        omega
    · intro c' e w8 hr h8 ht
      rw [hX6, hr]
      exact PostR.err H6 h8 ht
  · have e : (takesB i : Int) ≤ (acc.length : Int) := lt_f e
    rw [show takesB i - acc.length = 0 by omega] at hX5
    have hX6 : X = bindR (wantB s.size 4 sRp stx) fun _ st => (.ok (.cal i acc, st) : R N) := hX5
    refine ⟨rfl, (), rfl, fun g => ?_⟩
    rw [hX6]
    refine wantR (kind := 4) (text := sRp) (lv := .expr) H5 (hBG .expr H5 P5 (by simp)) (fun _ => by omega) (by rw [← hX6]; exact hne4) fun st7 w7 hX7 h7 P7 hne7 => ?_
    have b7 := b5.ch h7 (fun e : n1 = b => hn1 e)
    have I7 := I5.ch h7 (fun k hk (e : k = b) => by omega)
    refine ⟨H5.trans h7, _, rfl, ?_, P7⟩
    obtain ⟨vs, v1, v2, v3, v4, v5⟩ := I7.out (B := New w w7) (fun k hk hk' => ⟨by omega, hk'⟩)
    show IsN _ _ _ _
    simp only [IsN]
    exact ⟨n1, p, _, c, vs, rfl, ⟨by omega, b7.lt⟩, hi14, b7, v1, v2, v3, v4, v5⟩
/-- All levels. -/
theorem lv_ok (s : ByteArray) : ∀ (f : Nat) (lv : Lv), LvOk s f lv
  | 0, lv => fun w b st hB hne => absurd rfl hne
  | f + 1, lv => by
    have ih := lv_ok s f
    cases lv with
    | expr => exact expr_ok s f ih
    | or => exact or_ok s f ih
    | and => exact and_ok s f ih
    | not => exact not_ok s f ih
    | cmp => exact cmp_ok s f ih
    | sum => exact sum_ok s f ih
    | term => exact term_ok s f ih
    | neg => exact neg_ok s f ih
    | atom => exact atom_ok s f ih
    | list => exact list_ok s f ih
    | call i => exact call_ok s f ih i
end Go.Proofs.YtkebljkdkaagfaaGreatDoor.E
