/- A step's line, written. -/
import Derived.Test.YtjlmkahagcojcaaGreatDoorBld
import Derived.Test.YtjlmkahagcojcaaGreatDoorPsp
import Derived.Lib.AppendIntMem
namespace Go.Proofs.YtjlmkahagcojcaaGreatDoor
open Go Tr
set_option maxRecDepth 100000
/-! the tree of function 34 -/
abbrev fx34_2 (n1 : Nat) : List (Tmp × Value) := [(1, .pointer (some ⟨n1, 0, none⟩))]
abbrev mx34_2 : List (Tmp × Comp) := [(17, .leaf .bool)]
def s34_2 : Script := .ld (.int .i64) (.sym (.lit (.lit (.lit .nil))) (.lit (.ld (.int .i64) (.lit (.lit .nil)))))
theorem t34_2 (n1 : Nat) (gg2 : Nat → Value) : pieceT Tryz.prog (at_ Tryz.f34 [1, 0, 0]) 138 (fx34_2 n1) gg2 (mx34_2.map (·.1)) [] [] s34_2 =
  .load ⟨n1, 0, none⟩ (.int .i64) (fun x3 =>
    .br (Decidable.decide (x3 < 1))
      (.fin .normal [(17, .bool true)])
      (.load ⟨n1, 0, none⟩ (.int .i64) (fun x4 =>
        .fin .normal [(17, .bool (Decidable.decide (x4 > 9)))]))) := by kernel_rfl
abbrev fx34_13 (n1 : Nat) (s11 : ByteArray) : List (Tmp × Value) := [(1, .pointer (some ⟨n1, 0, none⟩)), (5, .string s11)]
abbrev mx34_13 : List (Tmp × Comp) := [(39, .leaf .bool)]
def s34_13 : Script := .ld (.int .i64) (.sym (.lit (.lit (.lit (.lit (.lit (.lit (.lit .nil))))))) (.lit (.ld (.int .i64) (.lit (.lit (.sym (.lit (.lit (.lit .nil))) (.lit (.ld (.int .i64) (.lit (.lit .nil))))))))))
theorem t34_13 (n1 : Nat) (s11 : ByteArray) (gg13 : Nat → Value) : pieceT Tryz.prog (at_ Tryz.f34 [1, 1, 1, 1, 0, 1, 0, 0, 0]) 138 (fx34_13 n1 s11) gg13 (mx34_13.map (·.1)) [] [] s34_13 =
  .load ⟨n1, 1, none⟩ (.int .i64) (fun x14 =>
    .br (Decidable.decide (x14 < 0))
      (.fin .normal [(39, .bool true)])
      (.load ⟨n1, 1, none⟩ (.int .i64) (fun x15 =>
        .br (Decidable.decide (x15 > 1000000000))
          (.fin .normal [(39, .bool true)])
          (.load ⟨n1, 2, none⟩ (.int .i64) (fun x16 =>
            .fin .normal [(39, .bool (x16 != 0))]))))) := by kernel_rfl
abbrev fx34_22 (l21 : Option Addr × Nat × Nat) : List (Tmp × Value) := [(51, .slice l21.1 l21.2.1 l21.2.2), (52, .int .i64 (↑l21.snd.fst : Int))]
abbrev m34_22 : List (Tmp × Comp) := [(5, .leaf .str), (53, .leaf (.int .i64))]
abbrev mx34_22 : List (Tmp × Comp) := [(5, .leaf .str)]
abbrev mr34_22 : List (Tmp × Comp) := [(2, .leaf .str), (3, .leaf .bool)]
def s34_22 : Script := .sym (.ix (.ld (.int .i64) (.cl (.one (.leaf .bool)) (.sym .nil (.cl (.one (.leaf .str)) (.nd (.nd .nil))))))) .nil
theorem t34_22 (l21 : Option Addr × Nat × Nat) (s_5 : ByteArray) (x_53 : Int) (gg22 : Nat → Value) : pieceT Tryz.prog (at_ Tryz.f34 [1, 1, 1, 1, 0, 1, 0, 1, 1, 0, 1, 0, 0]) 138 (fx34_22 l21 ++ mvals m34_22 (s_5, x_53, ())) gg22 (m34_22.map (·.1)) (mx34_22.map (·.1)) (mr34_22.map (·.1)) s34_22 =
  .br (Decidable.decide (x_53 < (↑l21.snd.fst : Int)))
    (.idx l21.1 x_53 l21.2.1 1 (fun a23 =>
      .load a23 (.int .i64) (fun x24 =>
        .call 68 #[.int .i64 x24] (.one (.leaf .bool)) (fun b25 =>
          .br (!b25)
            (.fin .ret [(2, .string (bytesL [])), (3, .bool false)])
            (.call 36 #[.int .i64 x24] (.one (.leaf .str)) (fun s26 =>
              .need (Decidable.decide ((bytesL [32]).size + s26.size ≤ 9223372036854775807))
                (.need (Decidable.decide (s_5.size + (bytesL [32] ++ s26).size ≤ 9223372036854775807))
                  (.fin .normal [(5, .string (s_5 ++ (bytesL [32] ++ s26))), (53, .int .i64 (IntKind.i64.wrap (x_53 + 1)))]))))))))
    (.fin (.exit 0) [(5, .string s_5)]) := by kernel_rfl
abbrev fx34_30 (l29 : Option Addr × Nat × Nat) : List (Tmp × Value) := [(51, .slice l29.1 l29.2.1 l29.2.2), (52, .int .i64 (↑l29.snd.fst : Int))]
abbrev m34_30 : List (Tmp × Comp) := [(5, .leaf .str), (53, .leaf (.int .i64))]
abbrev mx34_30 : List (Tmp × Comp) := [(5, .leaf .str)]
abbrev mr34_30 : List (Tmp × Comp) := [(2, .leaf .str), (3, .leaf .bool)]
def s34_30 : Script := .sym (.ix (.ld (.int .i64) (.cl (.one (.leaf .bool)) (.sym .nil (.cl (.one (.leaf .str)) (.nd (.nd .nil))))))) .nil
theorem t34_30 (l29 : Option Addr × Nat × Nat) (s_5 : ByteArray) (x_53 : Int) (gg30 : Nat → Value) : pieceT Tryz.prog (at_ Tryz.f34 [1, 1, 1, 1, 0, 1, 0, 1, 1, 0, 1, 0, 0]) 138 (fx34_30 l29 ++ mvals m34_30 (s_5, x_53, ())) gg30 (m34_30.map (·.1)) (mx34_30.map (·.1)) (mr34_30.map (·.1)) s34_30 =
  .br (Decidable.decide (x_53 < (↑l29.snd.fst : Int)))
    (.idx l29.1 x_53 l29.2.1 1 (fun a31 =>
      .load a31 (.int .i64) (fun x32 =>
        .call 68 #[.int .i64 x32] (.one (.leaf .bool)) (fun b33 =>
          .br (!b33)
            (.fin .ret [(2, .string (bytesL [])), (3, .bool false)])
            (.call 36 #[.int .i64 x32] (.one (.leaf .str)) (fun s34 =>
              .need (Decidable.decide ((bytesL [32]).size + s34.size ≤ 9223372036854775807))
                (.need (Decidable.decide (s_5.size + (bytesL [32] ++ s34).size ≤ 9223372036854775807))
                  (.fin .normal [(5, .string (s_5 ++ (bytesL [32] ++ s34))), (53, .int .i64 (IntKind.i64.wrap (x_53 + 1)))]))))))))
    (.fin (.exit 0) [(5, .string s_5)]) := by kernel_rfl
abbrev fx34_39 (n1 : Nat) (s11 : ByteArray) : List (Tmp × Value) := [(1, .pointer (some ⟨n1, 0, none⟩)), (5, .string s11)]
abbrev mx34_39 : List (Tmp × Comp) := [(84, .leaf .bool)]
def s34_39 : Script := .ld (.int .i64) (.cl (.one (.leaf .bool)) (.sym (.lit (.lit (.lit (.lit .nil)))) (.lit (.ld (.int .i64) (.lit (.cl (.one (.leaf .bool)) (.lit (.lit .nil))))))))
theorem t34_39 (n1 : Nat) (s11 : ByteArray) (gg39 : Nat → Value) : pieceT Tryz.prog (at_ Tryz.f34 [1, 1, 1, 1, 1, 1, 0, 1, 0, 0, 0]) 138 (fx34_39 n1 s11) gg39 (mx34_39.map (·.1)) [] [] s34_39 =
  .load ⟨n1, 1, none⟩ (.int .i64) (fun x40 =>
    .call 68 #[.int .i64 x40] (.one (.leaf .bool)) (fun b41 =>
      .br (!b41)
        (.fin .normal [(84, .bool true)])
        (.load ⟨n1, 2, none⟩ (.int .i64) (fun x42 =>
          .call 68 #[.int .i64 x42] (.one (.leaf .bool)) (fun b43 =>
            .fin .normal [(84, .bool (!b43))]))))) := by kernel_rfl
abbrev fx34_53 (n10 : Nat) (n52 : Nat) : List (Tmp × Value) := [(4, .pointer (some ⟨n10, 0, none⟩)), (106, .slice (some ⟨n52, 0, none⟩) 2 2), (107, .int .i64 2)]
abbrev m34_53 : List (Tmp × Comp) := [(5, .leaf .str), (108, .leaf (.int .i64))]
abbrev mx34_53 : List (Tmp × Comp) := [(5, .leaf .str)]
abbrev mr34_53 : List (Tmp × Comp) := [(2, .leaf .str), (3, .leaf .bool)]
abbrev fx34_56 (n10 : Nat) (n52 : Nat) (s_5 : ByteArray) (x_108 : Int) (x55 : Int) : List (Tmp × Value) := [(4, .pointer (some ⟨n10, 0, none⟩)), (5, .string s_5), (8, .int .i64 x_108), (9, .int .i64 x55), (106, .slice (some ⟨n52, 0, none⟩) 2 2), (107, .int .i64 2), (108, .int .i64 x_108)]
abbrev mx34_56 : List (Tmp × Comp) := [(125, .leaf .bool)]
def s34_56 : Script := .ld (.int .i64) (.sym (.lit (.lit (.sym (.lit (.lit (.lit .nil))) (.lit (.cl (.one (.leaf .bool)) (.lit (.lit .nil))))))) (.lit (.lit (.lit (.lit (.cl (.one (.leaf .bool)) (.lit (.lit .nil))))))))
theorem t34_56 (n10 : Nat) (n52 : Nat) (s_5 : ByteArray) (x_108 : Int) (x55 : Int) (gg56 : Nat → Value) : pieceT Tryz.prog (at_ Tryz.f34 [1, 1, 1, 1, 1, 1, 1, 0, 1, 0, 0, 1, 1, 0, 0, 1, 0, 0]) 138 (fx34_56 n10 n52 s_5 x_108 x55) gg56 (mx34_56.map (·.1)) [] [] s34_56 =
  .load ⟨n10, 1, none⟩ (.int .i64) (fun x57 =>
    .br (Decidable.decide (x_108 ≥ x57))
      (.br (x55 != 0)
        (.fin .normal [(125, .bool true)])
        (.call 68 #[.int .i64 x55] (.one (.leaf .bool)) (fun b58 =>
          .fin .normal [(125, .bool (!b58))])))
      (.call 68 #[.int .i64 x55] (.one (.leaf .bool)) (fun b59 =>
        .fin .normal [(125, .bool (!b59))]))) := by kernel_rfl
def s34_53 : Script := .sym (.ix (.ld (.int .i64) (.ct 1 [4, 5, 8, 9, 106, 107, 108] mx34_56 (.sym .nil (.ld (.int .i64) (.sym (.cl (.one (.leaf .str)) (.nd (.nd .nil))) .nil)))))) .nil
theorem t34_53 (n10 : Nat) (n52 : Nat) (s_5 : ByteArray) (x_108 : Int) (gg53 : Nat → Value) : pieceT Tryz.prog (at_ Tryz.f34 [1, 1, 1, 1, 1, 1, 1, 0, 1, 0, 0]) 138 (fx34_53 n10 n52 ++ mvals m34_53 (s_5, x_108, ())) gg53 (m34_53.map (·.1)) (mx34_53.map (·.1)) (mr34_53.map (·.1)) s34_53 =
  .br (Decidable.decide (x_108 < 2))
    (.idx (some ⟨n52, 0, none⟩) x_108 2 1 (fun a54 =>
      .load a54 (.int .i64) (fun x55 =>
        .cut (at_ Tryz.f34 [1, 1, 1, 1, 1, 1, 1, 0, 1, 0, 0, 1, 1, 0, 0, 1, 0, 0]) 138 (fx34_56 n10 n52 s_5 x_108 x55) mx34_56 (fun u60 g60 =>
          .br u60.1
            (.fin .ret [(2, .string (bytesL [])), (3, .bool false)])
            (.load ⟨n10, 1, none⟩ (.int .i64) (fun x61 =>
              .br (Decidable.decide (x_108 < x61))
                (.call 36 #[.int .i64 x55] (.one (.leaf .str)) (fun s62 =>
                  .need (Decidable.decide ((bytesL [32]).size + s62.size ≤ 9223372036854775807))
                    (.need (Decidable.decide (s_5.size + (bytesL [32] ++ s62).size ≤ 9223372036854775807))
                      (.fin .normal [(5, .string (s_5 ++ (bytesL [32] ++ s62))), (108, .int .i64 (IntKind.i64.wrap (x_108 + 1)))]))))
                (.fin .normal [(5, .string s_5), (108, .int .i64 (IntKind.i64.wrap (x_108 + 1)))])))))))
    (.fin (.exit 2) [(5, .string s_5)]) := by kernel_rfl
def s34 : Script := .ct 2 [1] mx34_2 (.sym .nil (.ld (.int .i64) (.ix (.ld .str (.ld (.int .i64) (.ld .str (.ld (.int .i64) (.sym (.ct 1 [1, 5] mx34_13 (.sym .nil (.ld (.int .i64) (.sym (.ld (.int .i64) (.cl (.one (.leaf .str)) (.nd (.nd (.ld .sl (.lp 0 [51, 52] [5, 53] mx34_22 mr34_22 (.nd .nil) .nil)))))) (.ld .sl (.lp 0 [51, 52] [5, 53] mx34_30 mr34_30 (.nd .nil) .nil)))))) (.ld .sl (.sym .nil (.ld (.int .i64) (.sym (.ct 1 [1, 5] mx34_39 (.sym .nil (.ld (.int .i64) (.cl (.one (.leaf .str)) (.nd (.nd (.ld (.int .i64) (.sym (.ld (.int .i64) (.cl (.one (.leaf .str)) (.nd (.nd (.nd .nil))))) (.nd .nil))))))))) (.ld (.int .i64) (.ld (.int .i64) (.lp 2 [4, 106, 107] [5, 108] mx34_53 mr34_53 (.nd .nil) .nil)))))))))))))))
theorem t34 (qx0_0 : Int) (qx0_1 : Int) (qx0_2 : Int) (qa0_3 : Option Addr) (qn0_3 : Nat) (qc0_3 : Nat) : fnT Tryz.prog Tryz.f34 #[.agg #[.int .i64 qx0_0, .int .i64 qx0_1, .int .i64 qx0_2, .slice qa0_3 qn0_3 qc0_3]] s34 =
  .new (.cells #[.int .i64 qx0_0, .int .i64 qx0_1, .int .i64 qx0_2, .slice qa0_3 qn0_3 qc0_3] 38 (0, 0)) (fun n1 =>
    .cut (at_ Tryz.f34 [1, 0, 0]) 138 (fx34_2 n1) mx34_2 (fun u5 g5 =>
      .br u5.1
        (.done (.returned (.tuple #[.string (bytesL []), .bool false])))
        (.load ⟨n1, 0, none⟩ (.int .i64) (fun x6 =>
          .idx (some ⟨0, 0, none⟩) x6 10 2 (fun a7 =>
            .load a7 .str (fun s8 =>
              .load (a7.add 1) (.int .i64) (fun x9 =>
                .new (.cells #[.string (bytesL []), .int .i64 0] 129 (0, 0)) (fun n10 =>
                  .store ⟨n10, 0, none⟩ (.string s8)
                    (.store ⟨n10, 1, none⟩ (.int .i64 x9)
                      (.load ⟨n10, 0, none⟩ .str (fun s11 =>
                        .load ⟨n1, 0, none⟩ (.int .i64) (fun x12 =>
                          .br (x12 == 9)
                            (.cut (at_ Tryz.f34 [1, 1, 1, 1, 0, 1, 0, 0, 0]) 138 (fx34_13 n1 s11) mx34_13 (fun u17 g17 =>
                              .br u17.1
                                (.done (.returned (.tuple #[.string (bytesL []), .bool false])))
                                (.load ⟨n1, 1, none⟩ (.int .i64) (fun x18 =>
                                  .br (Decidable.decide (x18 > 0))
                                    (.load ⟨n1, 1, none⟩ (.int .i64) (fun x19 =>
                                      .call 36 #[.int .i64 (IntKind.i64.wrap (x19 - 1))] (.one (.leaf .str)) (fun s20 =>
                                        .need (Decidable.decide ((bytesL [32, 97, 114, 109, 32]).size + s20.size ≤ 9223372036854775807))
                                          (.need (Decidable.decide (s11.size + (bytesL [32, 97, 114, 109, 32] ++ s20).size ≤ 9223372036854775807))
                                            (.load ⟨n1, 3, none⟩ .sl (fun l21 =>
                                              .loop (at_ Tryz.f34 [1, 1, 1, 1, 0, 1, 0, 1, 1, 0, 1, 0, 0]) 138 (fx34_22 l21) [(5, .string (s11 ++ (bytesL [32, 97, 114, 109, 32] ++ s20))), (53, .int .i64 0)] mx34_22 mr34_22 0 (fun u27 g27 =>
                                                .need (Decidable.decide (u27.fst.size + (bytesL [10]).size ≤ 9223372036854775807))
                                                  (.done (.returned (.tuple #[.string (u27.fst ++ bytesL [10]), .bool true])))) (fun u28 g28 =>
                                                .done (.returned (.tuple #[.string u28.1, .bool u28.2.1])))))))))
                                    (.load ⟨n1, 3, none⟩ .sl (fun l29 =>
                                      .loop (at_ Tryz.f34 [1, 1, 1, 1, 0, 1, 0, 1, 1, 0, 1, 0, 0]) 138 (fx34_30 l29) [(5, .string s11), (53, .int .i64 0)] mx34_30 mr34_30 0 (fun u35 g35 =>
                                        .need (Decidable.decide (u35.fst.size + (bytesL [10]).size ≤ 9223372036854775807))
                                          (.done (.returned (.tuple #[.string (u35.fst ++ bytesL [10]), .bool true])))) (fun u36 g36 =>
                                        .done (.returned (.tuple #[.string u36.1, .bool u36.2.1])))))))))
                            (.load ⟨n1, 3, none⟩ .sl (fun l37 =>
                              .br (Decidable.decide ((↑l37.snd.fst : Int) > 0))
                                (.done (.returned (.tuple #[.string (bytesL []), .bool false])))
                                (.load ⟨n1, 0, none⟩ (.int .i64) (fun x38 =>
                                  .br (x38 == 7)
                                    (.cut (at_ Tryz.f34 [1, 1, 1, 1, 1, 1, 0, 1, 0, 0, 0]) 138 (fx34_39 n1 s11) mx34_39 (fun u44 g44 =>
                                      .br u44.1
                                        (.done (.returned (.tuple #[.string (bytesL []), .bool false])))
                                        (.load ⟨n1, 1, none⟩ (.int .i64) (fun x45 =>
                                          .call 36 #[.int .i64 x45] (.one (.leaf .str)) (fun s46 =>
                                            .need (Decidable.decide ((bytesL [32]).size + s46.size ≤ 9223372036854775807))
                                              (.need (Decidable.decide (s11.size + (bytesL [32] ++ s46).size ≤ 9223372036854775807))
                                                (.load ⟨n1, 2, none⟩ (.int .i64) (fun x47 =>
                                                  .br (x47 != 0)
                                                    (.load ⟨n1, 2, none⟩ (.int .i64) (fun x48 =>
                                                      .call 36 #[.int .i64 x48] (.one (.leaf .str)) (fun s49 =>
                                                        .need (Decidable.decide ((bytesL [32, 97, 102, 116, 101, 114, 32]).size + s49.size ≤ 9223372036854775807))
                                                          (.need (Decidable.decide ((s11 ++ (bytesL [32] ++ s46)).size + (bytesL [32, 97, 102, 116, 101, 114, 32] ++ s49).size ≤ 9223372036854775807))
                                                            (.need (Decidable.decide ((s11 ++ (bytesL [32] ++ s46) ++ (bytesL [32, 97, 102, 116, 101, 114, 32] ++ s49)).size + (bytesL [10]).size ≤ 9223372036854775807))
                                                              (.done (.returned (.tuple #[.string (s11 ++ (bytesL [32] ++ s46) ++ (bytesL [32, 97, 102, 116, 101, 114, 32] ++ s49) ++ bytesL [10]), .bool true]))))))))
                                                    (.need (Decidable.decide ((s11 ++ (bytesL [32] ++ s46)).size + (bytesL [10]).size ≤ 9223372036854775807))
                                                      (.done (.returned (.tuple #[.string (s11 ++ (bytesL [32] ++ s46) ++ bytesL [10]), .bool true]))))))))))))
                                    (.load ⟨n1, 1, none⟩ (.int .i64) (fun x50 =>
                                      .load ⟨n1, 2, none⟩ (.int .i64) (fun x51 =>
                                        .new (.cells #[.int .i64 x50, .int .i64 x51] 3 (0, 0)) (fun n52 =>
                                          .loop (at_ Tryz.f34 [1, 1, 1, 1, 1, 1, 1, 0, 1, 0, 0]) 138 (fx34_53 n10 n52) [(5, .string s11), (108, .int .i64 0)] mx34_53 mr34_53 2 (fun u63 g63 =>
                                            .need (Decidable.decide (u63.fst.size + (bytesL [10]).size ≤ 9223372036854775807))
                                              (.done (.returned (.tuple #[.string (u63.fst ++ bytesL [10]), .bool true])))) (fun u64 g64 =>
                                            .done (.returned (.tuple #[.string u64.1, .bool u64.2.1]))))))))))))))))))))))) := by kernel_rfl
/-! the tree of function 68 -/
def s68 : Script := .sym (.lit (.lit .nil)) (.lit (.lit .nil))
theorem t68 (qx0 : Int) : fnT Tryz.prog Tryz.f68 #[.int .i64 qx0] s68 =
  .br (Decidable.decide (qx0 ≥ -999999999))
    (.done (.returned (.bool (Decidable.decide (qx0 ≤ 999999999)))))
    (.done (.returned (.bool false))) := by kernel_rfl
/-! the tree of function 32 -/
def s32 : Script := .nil
theorem t32 : fnT Tryz.prog Tryz.f32 #[] s32 =
  .new (.cells #[.int .i64 0, .int .i64 0, .iface 69 (.int .i64 68)] 122 (0, 0)) (fun n1 =>
    .done (.returned (.iface 120 (.pointer (some ⟨n1, 0, none⟩))))) := by kernel_rfl

theorem ba_eq {b : ByteArray} {l : List UInt8} (h : b.data.toList = l) : b = bytesL l := by
  subst h
  cases b with
  | mk d => simp [bytesL]
theorem ba_size (b : ByteArray) : b.size = b.data.toList.length := rfl
theorem ba_app (a b : ByteArray) : (a ++ b).data.toList = a.data.toList ++ b.data.toList := by rw [ByteArray.data_append, Array.toList_append]
theorem itoa_any (n : Int) (h0 : -9223372036854775808 ≤ n) (h1 : n ≤ 9223372036854775807) (w : World) (G : Glob w) : Calls Tryz.prog 36 #[.int .i64 n] w fun e w' => e = .returned (.string (bytesL (Lib.itoa n))) ∧ Ch No w w' := by
  refine (Tryz.strconv_Itoa n h0 h1 w G.pow).mono ?_
  rintro e w' ⟨rfl, k, os, rfl⟩
  exact ⟨rfl, Ch.of_below (Lib.below_grow w.heap.size w (Nat.le_refl _) k os)⟩
theorem within_any (n : Int) (w : World) : Calls Tryz.prog 68 #[.int .i64 n] w fun e w' => e = .returned (.bool (decide (Within n))) ∧ w' = w := by
  refine calls_of_fnT mixed Tryz.func68 (s := s68) ?_
  rw [t68]
  refine br_both (fun e => ⟨?_, rfl⟩) fun e => ⟨?_, rfl⟩
  · have e := ge_t e
    congr 2
    exact decide_eq_decide.2 ⟨fun h => ⟨e, h⟩, fun h => h.2⟩
  · have e := ge_f e
    rw [decide_eq_false (fun h => by have := h.1; omega)]
theorem unwritten_any (w : World) : Calls Tryz.prog 32 #[] w fun e w' => ∃ v, e = .returned v ∧ ErrAt w' v 0 0 68 ∧ Ch No w w' := by
  refine calls_of_fnT mixed Tryz.func32 (s := s32) ?_
  rw [t32]
  exact nw fun w1 h1 z1 b1 => ⟨_, rfl, ⟨_, rfl, b1⟩, h1⟩
theorem itoa_len {n : Int} (h : Within n) : (Lib.itoa n).length ≤ 10 := by
  unfold Within at h
  unfold Lib.itoa
  split
  · have := dec_len 8 n.natAbs (by omega)
    simp only [List.length_cons]; omega
  · have := dec_len 8 n.toNat (by omega)
    omega
theorem itoa_len_nat {n : Int} (h0 : 0 ≤ n) (h : n ≤ 999999999) : (Lib.itoa n).length ≤ 10 := itoa_len ⟨by omega, h⟩
theorem keep_cons (x : Int) (l : List Int) : keepText (x :: l) = if Within x then match keepText l with
    | none => none
    | some t => some (32 :: (Lib.itoa x ++ t))
    else none := rfl
/-- The numbers that survive, written. -/
theorem keep_loop {R : Ending → World → Prop} {Q : Exit → List (Tmp × Value) → World → Prop} {w : World} {kx : MVars mx34_22 → (Nat → Value) → T} {kr : MVars mr34_22 → (Nat → Value) → T} (p : Option Addr) (n c : Nat) (keep : List Int) (s0 : ByteArray) (hk : AtI w p n keep) (hn : n ≤ 2000000) (hs : s0.size ≤ 1000) (G : Glob w)
    (hx : ∀ t s g w', keepText keep = some t → s.data.toList = s0.data.toList ++ t → s.size ≤ 1000 + 11 * n → Ch No w w' → wpT Tryz.prog R Q (kx (s, ()) g) .pl w')
    (hr : ∀ g w', keepText keep = none → Ch No w w' → wpT Tryz.prog R Q (kr (bytesL [], false, ()) g) .pl w') :
    wpT Tryz.prog R Q (.loop (at_ Tryz.f34 [1, 1, 1, 1, 0, 1, 0, 1, 1, 0, 1, 0, 0]) 138 (fx34_22 (p, n, c)) [(5, .string s0), (53, .int .i64 0)] mx34_22 mr34_22 0 kx kr) .pl w := by
  refine loop_i mixed m34_22 s34_22 (by kernel_rfl) (by kernel_rfl)
    (fun (v : ByteArray × Int × Unit) w' => 0 ≤ v.2.1 ∧ v.2.1 ≤ n ∧ Ch No w w' ∧ ∃ t0, v.1.data.toList = s0.data.toList ++ t0 ∧ t0.length ≤ 11 * v.2.1.toNat ∧ keepText keep = (keepText (keep.drop v.2.1.toNat)).map (t0 ++ ·)) (fun (v : ByteArray × Int × Unit) _ => n - v.2.1.toNat) (s0, 0, ()) rfl ⟨by simp, by simp, Ch.refl _ _, [], by simp, by simp, by simp⟩ ?_
  rintro ⟨(s : ByteArray), (i : Int), ⟨⟩⟩ g w1 ⟨(i0 : 0 ≤ i), (i1 : i ≤ n), h1, t0, (hs0 : s.data.toList = s0.data.toList ++ t0), (hl : t0.length ≤ 11 * i.toNat), (hkt : keepText keep = (keepText (keep.drop i.toNat)).map (t0 ++ ·))⟩
  rw [t34_22]
  have hlen := hk.1
  have hsz : s.size = s0.size + t0.length := by rw [ba_size, hs0, List.length_append]; rfl
  refine br_both (fun e => ?_) fun e => ?_
  · have hi : i < n := lt_t e
    obtain ⟨x, hx'⟩ : ∃ u, keep[i.toNat]? = some u := ⟨_, List.getElem?_eq_getElem (by omega)⟩
    obtain ⟨hlt, hxe⟩ := List.getElem?_eq_some_iff.1 hx'
    have hdr : keep.drop i.toNat = x :: keep.drop (i.toNat + 1) := by rw [List.drop_eq_getElem_cons hlt, hxe]
    rw [hdr, keep_cons] at hkt
    obtain ⟨g1, o1, rfl, hc⟩ := (hk.no h1).2 (by omega)
    refine ix_i i0 hi ?_
    rw [addr_add, Nat.mul_one]
    refine ld_int (hc _ _ hx') (cl_i (within_any x w1) ?_)
    rintro e w2 ⟨rfl, rfl⟩
    refine ⟨_, rfl, br_both (fun e => ?_) fun e => ?_⟩
    · have hw : ¬ Within x := fun h => by rw [decide_eq_true h] at e; cases e
      rw [if_neg hw] at hkt
      exact ⟨(bytesL [], false, ()), rfl, fun g => hr g w2 hkt h1⟩
    · have hw : Within x := Decidable.byContradiction fun h => by rw [decide_eq_false h] at e; cases e
      rw [if_pos hw] at hkt
      have hw' := hw
      unfold Within at hw'
      refine cl_i (itoa_any x (by omega) (by omega) w2 (G.ch h1 (fun _ _ h => h))) ?_
      rintro e w3 ⟨rfl, h3⟩
      have hil := itoa_len hw
      have hz1 : (bytesL [32] ++ bytesL (Lib.itoa x)).size = (Lib.itoa x).length + 1 := by rw [ByteArray.size_append, tb_size, tb_size]; simp only [List.length_cons, List.length_nil]; omega
      refine ⟨_, rfl, nd_i (decide_eq_true (by rw [tb_size, tb_size]; simp only [List.length_cons, List.length_nil]; omega)) (nd_i (decide_eq_true (by rw [hz1]; omega)) ?_)⟩
      refine ⟨(s ++ (bytesL [32] ++ bytesL (Lib.itoa x)), i + 1, ()), ?_, ⟨by dsimp only; omega, by dsimp only; omega, h1.trans h3, t0 ++ 32 :: Lib.itoa x, ?_, ?_, ?_⟩, by dsimp only; omega⟩
      · rw [wrap_succ i0 (by omega)]; rfl
      · dsimp only
        rw [ba_app, ba_app, hs0, tb_data, tb_data, List.append_assoc]; rfl
      · dsimp only
        rw [show (i + 1).toNat = i.toNat + 1 by omega, List.length_append, List.length_cons]; omega
      · dsimp only
        rw [show (i + 1).toNat = i.toNat + 1 by omega, hkt]
        cases keepText (keep.drop (i.toNat + 1)) with
        | none => rfl
        | some t => simp
  · have hi : (n : Int) ≤ i := lt_f e
    rw [List.drop_of_length_le (by omega)] at hkt
    have hkt : keepText keep = some t0 := by rw [hkt]; simp [keepText]
    exact ⟨rfl, (s, ()), rfl, fun g => hx t0 s g w1 hkt hs0 (by omega) h1⟩
theorem step_word (k : Nat) (h1 : 1 ≤ k) (h2 : k ≤ 9) : stepsL[k]? = some (stepWord k, numbersM k) ∧ (stepWord k).length ≤ 7 := by
  have : ∀ k : Fin 10, 1 ≤ k.val → stepsL[k.val]? = some (stepWord k.val, numbersM k.val) ∧ (stepWord k.val).length ≤ 7 := by decide
  exact this ⟨k, by omega⟩ h1
/-- What a step's line answers. -/
def StepRes (o : OpM) (w : World) (e : Ending) (w' : World) : Prop := Ch No w w' ∧ match stepText o with
  | some t => e = .returned (.tuple #[.string (bytesL t), .bool true]) ∧ t.length ≤ 30000000
  | none => e = .returned (.tuple #[.string (bytesL []), .bool false])
theorem stepRes_some {o : OpM} {w w' : World} {l : List UInt8} {b : ByteArray} (h : stepLineM o = some l) (hc : Ch No w w') (hb : b.data.toList = l) (hz : b.size ≤ 29999990) : StepRes o w (.returned (.tuple #[.string (b ++ bytesL [10]), .bool true])) w' := by
  refine ⟨hc, ?_⟩
  unfold stepText
  rw [h]
  refine ⟨?_, ?_⟩
  · rw [ba_eq (b := b ++ bytesL [10]) (l := l ++ [10]) (by rw [ba_app, hb, tb_data])]
  · dsimp only
    rw [ba_size, hb] at hz
    rw [List.length_append, List.length_singleton]; omega
theorem stepRes_none {o : OpM} {w w' : World} (h : stepLineM o = none) (hc : Ch No w w') : StepRes o w (.returned (.tuple #[.string (bytesL []), .bool false])) w' := by
  refine ⟨hc, ?_⟩
  unfold stepText
  rw [h]
  rfl
set_option maxHeartbeats 1000000 in
theorem stepLine_any (o : OpM) (p : Option Addr) (n c : Nat) (w : World) (hk : AtI w p n o.keep) (hn : n ≤ 2000000) (G : Glob w) :
    Calls Tryz.prog 34 #[opVal o.kind o.a o.b p n c] w (StepRes o w) := by
  obtain ⟨kd, a, b, keep⟩ := o
  unfold opVal
  refine calls_of_fnT mixed Tryz.func34 (s := s34) ?_
  rw [t34]
  dsimp only at hk ⊢
  refine nw fun w1 h1 z1 b1 => ?_
  refine cut_i mixed s34_2 (fun (v : Bool × Unit) w' => w' = w1 ∧ v.1 = decide (kd < 1 ∨ 9 < kd)) (by kernel_rfl) (fun g => ?_) ?_
  · rw [t34_2]
    refine ld_int (b1.cell 0) (br_both (fun e => ⟨rfl, (_, ()), rfl, rfl, ?_⟩) fun e => ld_int (b1.cell 0) ⟨rfl, (_, ()), rfl, rfl, ?_⟩)
    · exact (decide_eq_true (.inl (lt_t e))).symm
    · have e := lt_f e
      exact decide_eq_decide.2 ⟨fun h => .inr h, fun h => h.resolve_left (by omega)⟩
  rintro ⟨v, ⟨⟩⟩ g w2 ⟨rfl, hv⟩
  dsimp only at hv
  subst hv
  refine br_both (fun e => ?_) fun e => ?_
  · have e := of_decide_eq_true e
    exact stepRes_none (by unfold stepLineM; rw [if_pos e]) h1
  have e := of_decide_eq_false e
  obtain ⟨k, rfl⟩ : ∃ k : Nat, kd = k := ⟨kd.toNat, by omega⟩
  have hm : stepLineM ⟨k, a, b, keep⟩ = (if (k : Int) = 9 then
    if a < 0 ∨ 1000000000 < a ∨ b ≠ 0 then none
    else match keepText keep with
      | none => none
      | some t => some (stepWord 9 ++ (armText a ++ t))
  else if keep ≠ [] then none
  else if (k : Int) = 7 then
    if ¬ Within a ∨ ¬ Within b then none
    else some (stepWord 7 ++ (32 :: (Lib.itoa a ++ afterText b)))
  else if (numbersM k ≤ 0 ∧ a ≠ 0) ∨ ¬ Within a ∨ (numbersM k ≤ 1 ∧ b ≠ 0) ∨ ¬ Within b then none
  else some (stepWord k ++ (numText (decide (0 < numbersM k)) a ++ numText (decide (1 < numbersM k)) b))) := by
    unfold stepLineM
    dsimp only
    rw [if_neg e, Int.toNat_natCast]
    rfl
  obtain ⟨hsw, hwl⟩ := step_word k (by omega) (by omega)
  have G1 := G.ch h1 (fun _ _ h => h)
  refine ld_int (b1.cell 0) (ix_i (by omega) (by omega) ?_)
  rw [addr_add, Nat.zero_add, Int.toNat_natCast]
  refine ld_str (G1.word k _ hsw) (ld_int (by rw [addr_add]; exact G1.num k _ hsw) ?_)
  refine nw fun w3 h3 z3 b3 => ?_
  refine st_blk b3 (by simp) rfl fun w4 h4 z4 b4 => st_blk b4 (by simp) rfl fun w5 h5 z5 b5 => ?_
  have H5 : Ch No w2 w5 := h3.then_ (h4.trans h5) (fun i hi (e : i = _) => by omega)
  have c5 := b1.ch H5 (fun h => h)
  have H05 := h1.trans H5
  have G5 := G1.ch H5 (fun _ _ h => h)
  have hk5 := hk.no H05
  refine ld_str (b5.cell 0) (ld_int (c5.cell 0) (br_both (fun e9 => ?_) fun e9 => ?_))
  · have h9 : k = 9 := by have := eq_t e9; omega
    subst h9
    rw [if_pos (by rfl)] at hm
    refine cut_i mixed s34_13 (fun (v : Bool × Unit) w' => w' = w5 ∧ v.1 = decide (a < 0 ∨ 1000000000 < a ∨ b ≠ 0)) (by kernel_rfl) (fun g => ?_) ?_
    · rw [t34_13]
      refine ld_int (c5.cell 1) (br_both (fun e => ⟨rfl, (_, ()), rfl, rfl, ?_⟩) fun e => ld_int (c5.cell 1) (br_both (fun e2 => ⟨rfl, (_, ()), rfl, rfl, ?_⟩) fun e2 => ld_int (c5.cell 2) ⟨rfl, (_, ()), rfl, rfl, ?_⟩))
      · exact (decide_eq_true (.inl (lt_t e))).symm
      · exact (decide_eq_true (.inr (.inl (gt_t e2)))).symm
      · have e := lt_f e
        have e2 := gt_f e2
        by_cases hb : b = 0
        · subst hb; rw [decide_eq_false (by omega)]; rfl
        · rw [decide_eq_true (by omega)]; exact bne_iff_ne.2 hb
    rintro ⟨v, ⟨⟩⟩ g w6 ⟨rfl, hv⟩
    dsimp only at hv
    subst hv
    refine br_both (fun e => ?_) fun e => ?_
    · rw [if_pos (of_decide_eq_true e)] at hm
      exact stepRes_none hm H05
    have e := of_decide_eq_false e
    rw [if_neg e] at hm
    refine ld_int (c5.cell 1) (br_both (fun ea => ?_) fun ea => ?_)
    · have ea := gt_t ea
      refine ld_int (c5.cell 1) ?_
      rw [wrap_in (x := a - 1) (by omega) (by omega)]
      refine cl_i (itoa_any (a - 1) (by omega) (by omega) w6 G5) ?_
      rintro e' w7 ⟨rfl, h7⟩
      have hil := itoa_len_nat (n := a - 1) (by omega) (by omega)
      have c7 := c5.ch h7 (fun h => h)
      have H07 := H05.trans h7
      have hz0 : (bytesL (stepWord 9)).size = 7 := by rw [tb_size]; rfl
      have hz1 : (bytesL [32, 97, 114, 109, 32] ++ bytesL (Lib.itoa (a - 1))).size = (Lib.itoa (a - 1)).length + 5 := by rw [ByteArray.size_append, tb_size, tb_size]; simp only [List.length_cons, List.length_nil]; omega
      refine ⟨_, rfl, nd_i (decide_eq_true (by rw [tb_size, tb_size]; simp only [List.length_cons, List.length_nil]; omega)) (nd_i (decide_eq_true (by rw [hz1, hz0]; omega)) (ld_sl (c7.cell 3) ?_))⟩
      refine keep_loop p n c keep _ (hk5.no h7) hn (by rw [ByteArray.size_append, hz1, hz0]; omega) (G5.ch h7 (fun _ _ h => h)) ?_ ?_
      · intro t s g w8 ht hs hz h8
        refine nd_i (decide_eq_true (by rw [tb_size]; show s.size + 1 ≤ _; omega)) ?_
        rw [ht] at hm
        refine stepRes_some hm (H07.trans h8) ?_ (by dsimp only; omega)
        rw [hs, ba_app, ba_app, tb_data, tb_data, tb_data]
        unfold armText
        rw [if_pos ea]
        simp [wArm]
      · intro g w8 ht h8
        rw [ht] at hm
        exact stepRes_none hm (H07.trans h8)
    · have ea := gt_f ea
      refine ld_sl (c5.cell 3) ?_
      refine keep_loop p n c keep _ hk5 hn (by rw [tb_size]; simp at hwl ⊢; omega) G5 ?_ ?_
      · intro t s g w8 ht hs hz h8
        refine nd_i (decide_eq_true (by rw [tb_size]; show s.size + 1 ≤ _; omega)) ?_
        rw [ht] at hm
        refine stepRes_some hm (H05.trans h8) ?_ (by dsimp only; omega)
        rw [hs, tb_data]
        unfold armText
        rw [if_neg (by omega)]
        rfl
      · intro g w8 ht h8
        rw [ht] at hm
        exact stepRes_none hm (H05.trans h8)
  have h9 : k ≠ 9 := fun h => eq_f (a := (k : Int)) e9 (by omega)
  rw [if_neg (by omega)] at hm
  refine ld_sl (c5.cell 3) (br_both (fun ek => ?_) fun ek => ?_)
  · have ek : 0 < n := by have := gt_t ek; dsimp only at this; omega
    have : keep ≠ [] := fun h => by have := hk.1; rw [h] at this; simp at this; omega
    rw [if_pos this] at hm
    exact stepRes_none hm H05
  have ek : n = 0 := by have := gt_f ek; dsimp only at this; omega
  have hke : keep = [] := List.eq_nil_of_length_eq_zero (by have := hk.1; omega)
  rw [if_neg (by simp [hke])] at hm
  refine ld_int (c5.cell 0) (br_both (fun e7 => ?_) fun e7 => ?_)
  · have h7 : k = 7 := by have := eq_t e7; omega
    subst h7
    rw [if_pos (by rfl)] at hm
    refine cut_i mixed s34_39 (fun (v : Bool × Unit) w' => w' = w5 ∧ v.1 = decide (¬ Within a ∨ ¬ Within b)) (by kernel_rfl) (fun g => ?_) ?_
    · rw [t34_39]
      refine ld_int (c5.cell 1) (cl_i (within_any a w5) ?_)
      rintro e w6 ⟨rfl, rfl⟩
      refine ⟨_, rfl, br_both (fun e => ⟨rfl, (_, ()), rfl, rfl, ?_⟩) fun e => ld_int (c5.cell 2) (cl_i (within_any b w6) ?_)⟩
      · have e : ¬ Within a := fun h => by rw [decide_eq_true h] at e; cases e
        exact (decide_eq_true (.inl e)).symm
      · have e : Within a := Decidable.byContradiction fun h => by rw [decide_eq_false h] at e; cases e
        rintro e' w7 ⟨rfl, rfl⟩
        refine ⟨_, rfl, rfl, (_, ()), rfl, rfl, ?_⟩
        by_cases hb : Within b
        · rw [decide_eq_true hb, decide_eq_false (fun h => h.elim (fun h => h e) (fun h => h hb))]
        · rw [decide_eq_false hb, decide_eq_true (.inr hb)]
    rintro ⟨v, ⟨⟩⟩ g w6 ⟨rfl, hv⟩
    dsimp only at hv
    subst hv
    refine br_both (fun e => ?_) fun e => ?_
    · rw [if_pos (of_decide_eq_true e)] at hm
      exact stepRes_none hm H05
    have e := of_decide_eq_false e
    rw [if_neg e] at hm
    have ha : Within a := Decidable.byContradiction fun h => e (.inl h)
    have hb : Within b := Decidable.byContradiction fun h => e (.inr h)
    have ha' := ha
    have hb' := hb
    unfold Within at ha' hb'
    have hla := itoa_len ha
    have hlb := itoa_len hb
    have hz0 : (bytesL (stepWord 7)).size = 4 := by rw [tb_size]; rfl
    refine ld_int (c5.cell 1) (cl_i (itoa_any a (by omega) (by omega) w6 G5) ?_)
    rintro e' w7 ⟨rfl, h7⟩
    have c7 := c5.ch h7 (fun h => h)
    have H07 := H05.trans h7
    have hz1 : (bytesL [32] ++ bytesL (Lib.itoa a)).size = (Lib.itoa a).length + 1 := by rw [ByteArray.size_append, tb_size, tb_size]; simp only [List.length_cons, List.length_nil]; omega
    refine ⟨_, rfl, nd_i (decide_eq_true (by rw [tb_size, tb_size]; simp only [List.length_cons, List.length_nil]; omega)) (nd_i (decide_eq_true (by rw [hz1, hz0]; omega)) (ld_int (c7.cell 2) (br_both (fun eb => ?_) fun eb => ?_)))⟩
    · have eb : b ≠ 0 := ne_t eb
      refine ld_int (c7.cell 2) (cl_i (itoa_any b (by omega) (by omega) w7 (G5.ch h7 (fun _ _ h => h))) ?_)
      rintro e' w8 ⟨rfl, h8⟩
      have hz2 : (bytesL [32, 97, 102, 116, 101, 114, 32] ++ bytesL (Lib.itoa b)).size = (Lib.itoa b).length + 7 := by rw [ByteArray.size_append, tb_size, tb_size]; simp only [List.length_cons, List.length_nil]; omega
      refine ⟨_, rfl, nd_i (decide_eq_true (by rw [tb_size, tb_size]; simp only [List.length_cons, List.length_nil]; omega)) (nd_i (decide_eq_true (by rw [ByteArray.size_append, hz1, hz2, hz0]; omega)) (nd_i (decide_eq_true (by rw [ByteArray.size_append, ByteArray.size_append, hz1, hz2, hz0, tb_size]; simp <;> omega)) ?_))⟩
      refine stepRes_some hm (H07.trans h8) ?_ (by rw [ByteArray.size_append, ByteArray.size_append, hz1, hz2, hz0]; omega)
      simp only [ba_app, tb_data]
      unfold afterText
      rw [if_pos eb]
      simp [wAfter]
    · have eb : b = 0 := ne_f eb
      refine nd_i (decide_eq_true (by rw [ByteArray.size_append, hz1, hz0, tb_size]; simp <;> omega)) ?_
      refine stepRes_some hm H07 ?_ (by rw [ByteArray.size_append, hz1, hz0]; omega)
      simp only [ba_app, tb_data]
      unfold afterText
      rw [if_neg (by simp [eb])]
      simp
  have h7 : k ≠ 7 := fun h => eq_f (a := (k : Int)) e7 (by omega)
  rw [if_neg (by omega)] at hm
  refine ld_int (c5.cell 1) (ld_int (c5.cell 2) (nw fun w6 h6 z6 b6 => ?_))
  have c6 := b5.ch h6 (fun h => h)
  have H06 := H05.trans h6
  have G6 := G5.ch h6 (fun _ _ h => h)
  have hz0 : (bytesL (stepWord k)).size ≤ 7 := by rw [tb_size]; exact hwl
  generalize hn6 : w5.heap.size = n6 at *
  generalize hn3 : w2.heap.size = n3 at *
  refine loop_i mixed m34_53 s34_53 (by kernel_rfl) (by kernel_rfl)
    (fun (v : ByteArray × Int × Unit) w' => Ch No w6 w' ∧ v.1.size ≤ 7 + 11 * v.2.1.toNat ∧ ((v.2.1 = 0 ∧ v.1.data.toList = stepWord k) ∨ (v.2.1 = 1 ∧ v.1.data.toList = stepWord k ++ numText (decide (0 < numbersM k)) a ∧ ¬ (numbersM k ≤ 0 ∧ a ≠ 0) ∧ Within a) ∨ (v.2.1 = 2 ∧ v.1.data.toList = stepWord k ++ (numText (decide (0 < numbersM k)) a ++ numText (decide (1 < numbersM k)) b) ∧ ¬ (numbersM k ≤ 0 ∧ a ≠ 0) ∧ Within a ∧ ¬ (numbersM k ≤ 1 ∧ b ≠ 0) ∧ Within b))) (fun (v : ByteArray × Int × Unit) _ => 2 - v.2.1.toNat) (bytesL (stepWord k), 0, ()) rfl ⟨Ch.refl _ _, by simpa using hz0, .inl ⟨rfl, tb_data _⟩⟩ ?_
  rintro ⟨(s : ByteArray), (i : Int), ⟨⟩⟩ g w7 ⟨h7', (hz : s.size ≤ 7 + 11 * i.toNat), (hi : (i = 0 ∧ s.data.toList = stepWord k) ∨ (i = 1 ∧ s.data.toList = stepWord k ++ numText (decide (0 < numbersM k)) a ∧ ¬ (numbersM k ≤ 0 ∧ a ≠ 0) ∧ Within a) ∨ (i = 2 ∧ s.data.toList = stepWord k ++ (numText (decide (0 < numbersM k)) a ++ numText (decide (1 < numbersM k)) b) ∧ ¬ (numbersM k ≤ 0 ∧ a ≠ 0) ∧ Within a ∧ ¬ (numbersM k ≤ 1 ∧ b ≠ 0) ∧ Within b))⟩
  rw [t34_53]
  have b7 := b6.ch h7' (fun h => h)
  have c7 := c6.ch h7' (fun h => h)
  have G7 := G6.ch h7' (fun _ _ h => h)
  have H07 := H06.trans h7'
  refine br_both (fun e2 => ?_) fun e2 => ?_
  · have hi2 : i < 2 := lt_t e2
    have hi0 : 0 ≤ i := by omega
    obtain ⟨x, hx⟩ : ∃ x : Int, x = if i = 0 then a else b := ⟨_, rfl⟩
    have hcell : w7.cell? ⟨n6, 0 + i.toNat * 1, none⟩ = some (.int .i64 x) := by
      rw [b7.cell, Nat.zero_add, Nat.mul_one]
      have : i = 0 ∨ i = 1 := by omega
      rcases this with rfl | rfl
      · rw [hx]; rfl
      · rw [hx]; rfl
    refine ix_i hi0 (by omega) (ld_int (by rw [addr_add]; exact hcell) ?_)
    refine cut_i mixed s34_56 (fun (v : Bool × Unit) w' => w' = w7 ∧ v.1 = decide ((numbersM k ≤ i ∧ x ≠ 0) ∨ ¬ Within x)) (by kernel_rfl) (fun g => ?_) ?_
    · rw [t34_56]
      have wi : ∀ {Q : Exit → List (Tmp × Value) → World → Prop}, (¬ (numbersM k ≤ i ∧ x ≠ 0)) → ∀ w', (w' = w7) → ∃ v : Bool × Unit, [((125 : Nat), Value.bool (!decide (Within x)))] = mvals mx34_56 v ∧ w' = w7 ∧ v.1 = decide ((numbersM k ≤ i ∧ x ≠ 0) ∨ ¬ Within x) := fun hn w' hw => by
        refine ⟨(_, ()), rfl, hw, ?_⟩
        by_cases hb : Within x
        · rw [decide_eq_true hb, decide_eq_false (fun h => h.elim hn (fun h => h hb))]
        · rw [decide_eq_false hb, decide_eq_true (.inr hb)]
      refine ld_int (c7.cell 1) (br_both (fun e => br_both (fun e3 => ⟨rfl, (_, ()), rfl, rfl, ?_⟩) fun e3 => cl_i (within_any x w7) ?_) fun e => cl_i (within_any x w7) ?_)
      · exact (decide_eq_true (.inl ⟨ge_t e, ne_t e3⟩)).symm
      · rintro e' w8 ⟨rfl, rfl⟩
        have e3 : x = 0 := ne_f e3
        exact ⟨_, rfl, rfl, wi (Q := fun _ _ _ => True) (fun h => h.2 e3) _ rfl⟩
      · rintro e' w8 ⟨rfl, rfl⟩
        have e : i < numbersM k := ge_f e
        exact ⟨_, rfl, rfl, wi (Q := fun _ _ _ => True) (fun h => by omega) _ rfl⟩
    rintro ⟨v, ⟨⟩⟩ g w8 ⟨rfl, hv⟩
    dsimp only at hv
    subst hv
    refine br_both (fun e => ?_) fun e => ?_
    · have e := of_decide_eq_true e
      refine ⟨(bytesL [], false, ()), rfl, fun g => stepRes_none ?_ H07⟩
      rw [hm]
      refine if_pos ?_
      rcases hi with ⟨rfl, _⟩ | ⟨rfl, _⟩ | ⟨rfl, _⟩
      · rw [if_pos rfl] at hx
        subst hx
        rcases e with e | e
        · exact .inl e
        · exact .inr (.inl e)
      · rw [if_neg (by decide)] at hx
        subst hx
        rcases e with e | e
        · exact .inr (.inr (.inl e))
        · exact .inr (.inr (.inr e))
      · omega
    have e := of_decide_eq_false e
    have hxw : Within x := Decidable.byContradiction fun h => e (.inr h)
    have hxn : ¬ (numbersM k ≤ i ∧ x ≠ 0) := fun h => e (.inl h)
    have hxw' := hxw
    unfold Within at hxw'
    have step : ∀ (s' : ByteArray), s'.data.toList = s.data.toList ++ numText (decide (i < numbersM k)) x → s'.size ≤ 7 + 11 * (i + 1).toNat → ((i + 1 = 0 ∧ s'.data.toList = stepWord k) ∨ (i + 1 = 1 ∧ s'.data.toList = stepWord k ++ numText (decide (0 < numbersM k)) a ∧ ¬ (numbersM k ≤ 0 ∧ a ≠ 0) ∧ Within a) ∨ (i + 1 = 2 ∧ s'.data.toList = stepWord k ++ (numText (decide (0 < numbersM k)) a ++ numText (decide (1 < numbersM k)) b) ∧ ¬ (numbersM k ≤ 0 ∧ a ≠ 0) ∧ Within a ∧ ¬ (numbersM k ≤ 1 ∧ b ≠ 0) ∧ Within b)) := by
      intro s' hs' _
      rcases hi with ⟨rfl, hs⟩ | ⟨rfl, hs, h1, h2⟩ | ⟨rfl, _⟩
      · rw [if_pos rfl] at hx
        subst hx
        exact .inr (.inl ⟨rfl, by rw [hs', hs], hxn, hxw⟩)
      · rw [if_neg (by decide)] at hx
        subst hx
        exact .inr (.inr ⟨rfl, by rw [hs', hs, List.append_assoc], h1, h2, hxn, hxw⟩)
      · omega
    refine ld_int (c7.cell 1) (br_both (fun e3 => ?_) fun e3 => ?_)
    · have e3 : i < numbersM k := lt_t e3
      refine cl_i (itoa_any x (by omega) (by omega) w8 G7) ?_
      rintro e' w9 ⟨rfl, h9'⟩
      have hil := itoa_len hxw
      have hz1 : (bytesL [32] ++ bytesL (Lib.itoa x)).size = (Lib.itoa x).length + 1 := by rw [ByteArray.size_append, tb_size, tb_size]; simp only [List.length_cons, List.length_nil]; omega
      refine ⟨_, rfl, nd_i (decide_eq_true (by rw [tb_size, tb_size]; simp only [List.length_cons, List.length_nil]; omega)) (nd_i (decide_eq_true (by rw [hz1]; omega)) ?_)⟩
      have hzz : (s ++ (bytesL [32] ++ bytesL (Lib.itoa x))).size ≤ 7 + 11 * (i + 1).toNat := by
        rw [ByteArray.size_append, hz1]; omega
      refine ⟨(s ++ (bytesL [32] ++ bytesL (Lib.itoa x)), i + 1, ()), ?_, ⟨h7'.trans h9', hzz, step _ ?_ hzz⟩, by dsimp only; omega⟩
      · rw [wrap_succ hi0 (by omega)]; rfl
      · rw [ba_app, ba_app, tb_data, tb_data]
        unfold numText
        rw [if_pos (decide_eq_true e3)]; rfl
    · have e3 : numbersM k ≤ i := lt_f e3
      have hzz : s.size ≤ 7 + 11 * (i + 1).toNat := by omega
      refine ⟨(s, i + 1, ()), ?_, ⟨h7', hzz, step _ ?_ hzz⟩, by dsimp only; omega⟩
      · rw [wrap_succ hi0 (by omega)]; rfl
      · unfold numText
        rw [if_neg (by rw [decide_eq_false (by omega)]; decide), List.append_nil]
  · have hi2 : 2 ≤ i := lt_f e2
    rcases hi with ⟨rfl, _⟩ | ⟨rfl, _⟩ | ⟨rfl, hs, h1, h2, h3, h4⟩
    · omega
    · omega
    refine ⟨rfl, (s, ()), rfl, fun g => nd_i (decide_eq_true (by rw [tb_size]; show s.size + 1 ≤ _; omega)) ?_⟩
    refine stepRes_some ?_ H07 hs (by dsimp only; omega)
    rw [hm]
    exact if_neg (fun h => by
      rcases h with h | h | h | h
      · exact h1 h
      · exact h h2
      · exact h3 h
      · exact h h4)
end Go.Proofs.YtjlmkahagcojcaaGreatDoor
