/- The document's answer: a step of a line. -/
import Derived.Test.YtjlmkahagcojcaaGreatDoorRfx
namespace Go.Proofs.YtjlmkahagcojcaaGreatDoor
open Go Tr
set_option maxRecDepth 100000
/-! the tree of function 66 -/
abbrev fx66_2 (qx2 : Int) (n1 : Nat) : List (Tmp × Value) := [(2, .int .i64 qx2), (3, .pointer (some ⟨n1, 0, none⟩))]
abbrev m66_2 : List (Tmp × Comp) := [(1, .leaf (.int .i64)), (9, .leaf .sl)]
abbrev mx66_2 : List (Tmp × Comp) := [(1, .leaf (.int .i64)), (9, .leaf .sl)]
abbrev mr66_2 : List (Tmp × Comp) := [(6, .leaf .sl), (7, .leaf (.int .i64)), (8, .leaf (.int .i64))]
abbrev fx66_3 (qx2 : Int) (n1 : Nat) (x_1 : Int) (l_9 : Option Addr × Nat × Nat) : List (Tmp × Value) := [(1, .int .i64 x_1), (2, .int .i64 qx2), (3, .pointer (some ⟨n1, 0, none⟩)), (9, .slice l_9.1 l_9.2.1 l_9.2.2)]
abbrev mx66_3 : List (Tmp × Comp) := [(26, .leaf .bool)]
def s66_3 : Script := .sym (.lit (.lit (.ld .sl (.lit (.lit (.lit (.sym (.lit (.lit (.lit (.lit .nil)))) (.lit (.lit (.lit (.lit .nil))))))))))) (.lit (.lit (.lit (.lit (.lit (.lit (.lit (.lit (.lit (.lit .nil))))))))))
theorem t66_3 (qx2 : Int) (n1 : Nat) (x_1 : Int) (l_9 : Option Addr × Nat × Nat) (g : Nat → Value) : pieceT Tryz.prog (at_ Tryz.f66 [1, 1, 0, 0, 0, 0, 0]) 54 (fx66_3 qx2 n1 x_1 l_9) g (mx66_3.map (·.1)) [] [] s66_3 =
  .br (Decidable.decide (qx2 < 0))
    (.load ⟨n1, 1, none⟩ .sl (fun l4 =>
      .br (Decidable.decide (x_1 < (↑l4.snd.fst : Int)))
        (.fin .normal [(26, .bool true)])
        (.fin .normal [(26, .bool (Decidable.decide ((↑l_9.snd.fst : Int) < qx2)))])))
    (.fin .normal [(26, .bool (Decidable.decide ((↑l_9.snd.fst : Int) < qx2)))]) := by kernel_rfl
def s66_2 : Script := .ct 1 [1, 2, 3, 9] mx66_3 (.sym (.ld .str (.ld .sl (.cl (.one (.leaf .str)) (.cl (.tup [.leaf (.int .i64), .leaf .bool]) (.sym (.ld .str (.ld .sl (.cl (.one (.leaf (.int .i64))) .nil))) (.nop (.nop (.nop (.rn (.one (.leaf .sl)) .nil))))))))) .nil)
theorem t66_2 (qx2 : Int) (n1 : Nat) (x_1 : Int) (l_9 : Option Addr × Nat × Nat) (g : Nat → Value) : pieceT Tryz.prog (at_ Tryz.f66 [1, 1, 0, 0, 0]) 54 (fx66_2 qx2 n1 ++ mvals m66_2 (x_1, l_9, ())) g (m66_2.map (·.1)) (mx66_2.map (·.1)) (mr66_2.map (·.1)) s66_2 =
  .cut (at_ Tryz.f66 [1, 1, 0, 0, 0, 0, 0]) 54 (fx66_3 qx2 n1 x_1 l_9) mx66_3 (fun u5 g5 =>
    .br u5.1
      (.load ⟨n1, 0, none⟩ .str (fun s6 =>
        .load ⟨n1, 1, none⟩ .sl (fun l7 =>
          .call 25 #[.agg #[.string s6, .slice l7.1 l7.2.1 l7.2.2], .int .i64 x_1] (.one (.leaf .str)) (fun s8 =>
            .call 62 #[.string s8, .bool true] (.tup [.leaf (.int .i64), .leaf .bool]) (fun r9 =>
              .br (!r9.snd.fst)
                (.load ⟨n1, 0, none⟩ .str (fun s10 =>
                  .load ⟨n1, 1, none⟩ .sl (fun l11 =>
                    .call 29 #[.agg #[.string s10, .slice l11.1 l11.2.1 l11.2.2], .int .i64 x_1] (.one (.leaf (.int .i64))) (fun x12 =>
                      .fin .ret [(6, .slice none 0 0), (7, .int .i64 x12), (8, .int .i64 62)]))))
                (.new (.cells #[.int .i64 r9.1] 3 (0, 0)) (fun n13 =>
                  .run (builtin .append #[36, 36] 36 #[false, false] #[.slice l_9.1 l_9.2.1 l_9.2.2, .slice (some ⟨n13, 0, none⟩) 1 1]) (.one (.leaf .sl)) (fun l14 =>
                    .fin .normal [(1, .int .i64 (IntKind.i64.wrap (x_1 + 1))), (9, .slice l14.1 l14.2.1 l14.2.2)]))))))))
      (.fin (.exit 0) [(1, .int .i64 x_1), (9, .slice l_9.1 l_9.2.1 l_9.2.2)])) := by kernel_rfl
def s66 : Script := .lp 0 [2, 3] [1, 9] mx66_2 mr66_2 (.ld .sl (.sym (.ld .str (.ld .sl (.cl (.one (.leaf (.int .i64))) .nil))) .nil)) .nil
theorem t66 (qs0_0 : ByteArray) (qa0_1 : Option Addr) (qn0_1 : Nat) (qc0_1 : Nat) (qx1 : Int) (qx2 : Int) : fnT Tryz.prog Tryz.f66 #[.agg #[.string qs0_0, .slice qa0_1 qn0_1 qc0_1], .int .i64 qx1, .int .i64 qx2] s66 =
  .new (.cells #[.string qs0_0, .slice qa0_1 qn0_1 qc0_1] 77 (0, 0)) (fun n1 =>
    .loop (at_ Tryz.f66 [1, 1, 0, 0, 0]) 54 (fx66_2 qx2 n1) [(1, .int .i64 qx1), (9, .slice none 0 0)] mx66_2 mr66_2 0 (fun u15 g15 =>
      .load ⟨n1, 1, none⟩ .sl (fun l16 =>
        .br (Decidable.decide (u15.fst < (↑l16.snd.fst : Int)))
          (.load ⟨n1, 0, none⟩ .str (fun s17 =>
            .load ⟨n1, 1, none⟩ .sl (fun l18 =>
              .call 29 #[.agg #[.string s17, .slice l18.1 l18.2.1 l18.2.2], .int .i64 u15.1] (.one (.leaf (.int .i64))) (fun x19 =>
                .done (.returned (.tuple #[.slice none 0 0, .int .i64 x19, .int .i64 61]))))))
          (.done (.returned (.tuple #[.slice u15.2.1.1 u15.2.1.2.1 u15.2.1.2.2, .int .i64 0, .int .i64 0]))))) (fun u20 g20 =>
      .done (.returned (.tuple #[.slice u20.1.1 u20.1.2.1 u20.1.2.2, .int .i64 u20.2.1, .int .i64 u20.2.2.1])))) := by kernel_rfl
/-! the tree of function 65 -/
def s65 : Script := .ld .str (.ld .sl (.cl (.one (.leaf .str)) (.cl (.tup [.leaf (.int .i64), .leaf .bool]) (.sym (.hd0 (.hq 0 (.ld (.int .i64) (.ld (.int .i64) (.ld (.int .i64) (.ld .sl (.hq 1 (.ld .str (.ld .sl (.he 2 (.cl (.one (.leaf (.int .i64))) (.he 3 (.hq 4 (.hq 5 (.ld (.int .i64) (.ld (.int .i64) (.ld (.int .i64) (.ld .sl .nil)))))))))))))))))) (.ld .str (.ld .sl (.cl (.one (.leaf .str)) (.cl (.tup [.leaf (.int .i64), .leaf .bool]) (.sym (.hd0 (.hq 0 (.ld (.int .i64) (.ld (.int .i64) (.ld (.int .i64) (.ld .sl (.hq 1 (.ld .str (.ld .sl (.he 2 (.cl (.one (.leaf (.int .i64))) (.he 3 (.hq 4 (.hq 5 (.ld (.int .i64) (.ld (.int .i64) (.ld (.int .i64) (.ld .sl .nil)))))))))))))))))) (.ld .sl (.sym (.hd0 (.hq 0 (.ld (.int .i64) (.ld (.int .i64) (.ld (.int .i64) (.ld .sl (.hq 1 (.ld .str (.ld .sl (.he 2 (.cl (.one (.leaf (.int .i64))) (.he 3 (.hq 4 (.hq 5 (.ld (.int .i64) (.ld (.int .i64) (.ld (.int .i64) (.ld .sl .nil)))))))))))))))))) (.ld (.int .i64) (.ld (.int .i64) (.ld (.int .i64) (.ld .sl (.ld (.int .i64) (.ld (.int .i64) (.ld (.int .i64) (.ld .sl .nil)))))))))))))))))))
theorem t65 (qs0_0 : ByteArray) (qa0_1 : Option Addr) (qn0_1 : Nat) (qc0_1 : Nat) : fnT Tryz.prog Tryz.f65 #[.agg #[.string qs0_0, .slice qa0_1 qn0_1 qc0_1]] s65 =
  .new (.cells #[.string qs0_0, .slice qa0_1 qn0_1 qc0_1] 77 (0, 0)) (fun n1 =>
    .new (.cells #[.int .i64 0, .int .i64 0, .int .i64 0, .slice none 0 0] 38 (0, 0)) (fun n2 =>
      .new (.cells #[.int .i64 0, .int .i64 0, .int .i64 0, .slice none 0 0] 38 (0, 0)) (fun n3 =>
        .store ⟨n3, 0, none⟩ (.int .i64 7)
          (.store ⟨n3, 1, none⟩ (.int .i64 0)
            (.store ⟨n3, 2, none⟩ (.int .i64 0)
              (.store ⟨n3, 3, none⟩ (.slice none 0 0)
                (.load ⟨n1, 0, none⟩ .str (fun s4 =>
                  .load ⟨n1, 1, none⟩ .sl (fun l5 =>
                    .call 25 #[.agg #[.string s4, .slice l5.1 l5.2.1 l5.2.2], .int .i64 1] (.one (.leaf .str)) (fun s6 =>
                      .call 62 #[.string s6, .bool true] (.tup [.leaf (.int .i64), .leaf .bool]) (fun r7 =>
                        .br (!r7.snd.fst)
                          (.hdrawn
                            (.load ⟨n3, 0, none⟩ (.int .i64) (fun x8 =>
                              .load ⟨n3, 1, none⟩ (.int .i64) (fun x9 =>
                                .load ⟨n3, 2, none⟩ (.int .i64) (fun x10 =>
                                  .load ⟨n3, 3, none⟩ .sl (fun l11 =>
                                    .load ⟨n1, 0, none⟩ .str (fun s12 =>
                                      .load ⟨n1, 1, none⟩ .sl (fun l13 =>
                                        .eff
                                          (.call 29 #[.agg #[.string s12, .slice l13.1 l13.2.1 l13.2.2], .int .i64 1] (.one (.leaf (.int .i64))) (fun x14 =>
                                            .back
                                              (.eff
                                                (.store ⟨n2, 0, none⟩ (.int .i64 x8)
                                                  (.store ⟨n2, 1, none⟩ (.int .i64 x9)
                                                    (.store ⟨n2, 2, none⟩ (.int .i64 x10)
                                                      (.store ⟨n2, 3, none⟩ (.slice l11.1 l11.2.1 l11.2.2)
                                                        (.back
                                                          (.undrawn
                                                            (.load ⟨n2, 0, none⟩ (.int .i64) (fun x15 =>
                                                              .load ⟨n2, 1, none⟩ (.int .i64) (fun x16 =>
                                                                .load ⟨n2, 2, none⟩ (.int .i64) (fun x17 =>
                                                                  .load ⟨n2, 3, none⟩ .sl (fun l18 =>
                                                                    .done (.returned (.tuple #[.agg #[.int .i64 x15, .int .i64 x16, .int .i64 x17, .slice l18.1 l18.2.1 l18.2.2], .int .i64 x14, .int .i64 62]))))))))))))))))))))))))
                          (.load ⟨n1, 0, none⟩ .str (fun s19 =>
                            .load ⟨n1, 1, none⟩ .sl (fun l20 =>
                              .call 25 #[.agg #[.string s19, .slice l20.1 l20.2.1 l20.2.2], .int .i64 3] (.one (.leaf .str)) (fun s21 =>
                                .call 62 #[.string s21, .bool true] (.tup [.leaf (.int .i64), .leaf .bool]) (fun r22 =>
                                  .br (!r22.snd.fst)
                                    (.hdrawn
                                      (.load ⟨n3, 0, none⟩ (.int .i64) (fun x23 =>
                                        .load ⟨n3, 1, none⟩ (.int .i64) (fun x24 =>
                                          .load ⟨n3, 2, none⟩ (.int .i64) (fun x25 =>
                                            .load ⟨n3, 3, none⟩ .sl (fun l26 =>
                                              .load ⟨n1, 0, none⟩ .str (fun s27 =>
                                                .load ⟨n1, 1, none⟩ .sl (fun l28 =>
                                                  .eff
                                                    (.call 29 #[.agg #[.string s27, .slice l28.1 l28.2.1 l28.2.2], .int .i64 3] (.one (.leaf (.int .i64))) (fun x29 =>
                                                      .back
                                                        (.eff
                                                          (.store ⟨n2, 0, none⟩ (.int .i64 x23)
                                                            (.store ⟨n2, 1, none⟩ (.int .i64 x24)
                                                              (.store ⟨n2, 2, none⟩ (.int .i64 x25)
                                                                (.store ⟨n2, 3, none⟩ (.slice l26.1 l26.2.1 l26.2.2)
                                                                  (.back
                                                                    (.undrawn
                                                                      (.load ⟨n2, 0, none⟩ (.int .i64) (fun x30 =>
                                                                        .load ⟨n2, 1, none⟩ (.int .i64) (fun x31 =>
                                                                          .load ⟨n2, 2, none⟩ (.int .i64) (fun x32 =>
                                                                            .load ⟨n2, 3, none⟩ .sl (fun l33 =>
                                                                              .done (.returned (.tuple #[.agg #[.int .i64 x30, .int .i64 x31, .int .i64 x32, .slice l33.1 l33.2.1 l33.2.2], .int .i64 x29, .int .i64 62]))))))))))))))))))))))))
                                    (.load ⟨n1, 1, none⟩ .sl (fun l34 =>
                                      .br (Decidable.decide ((↑l34.snd.fst : Int) > 4))
                                        (.hdrawn
                                          (.load ⟨n3, 0, none⟩ (.int .i64) (fun x35 =>
                                            .load ⟨n3, 1, none⟩ (.int .i64) (fun x36 =>
                                              .load ⟨n3, 2, none⟩ (.int .i64) (fun x37 =>
                                                .load ⟨n3, 3, none⟩ .sl (fun l38 =>
                                                  .load ⟨n1, 0, none⟩ .str (fun s39 =>
                                                    .load ⟨n1, 1, none⟩ .sl (fun l40 =>
                                                      .eff
                                                        (.call 29 #[.agg #[.string s39, .slice l40.1 l40.2.1 l40.2.2], .int .i64 4] (.one (.leaf (.int .i64))) (fun x41 =>
                                                          .back
                                                            (.eff
                                                              (.store ⟨n2, 0, none⟩ (.int .i64 x35)
                                                                (.store ⟨n2, 1, none⟩ (.int .i64 x36)
                                                                  (.store ⟨n2, 2, none⟩ (.int .i64 x37)
                                                                    (.store ⟨n2, 3, none⟩ (.slice l38.1 l38.2.1 l38.2.2)
                                                                      (.back
                                                                        (.undrawn
                                                                          (.load ⟨n2, 0, none⟩ (.int .i64) (fun x42 =>
                                                                            .load ⟨n2, 1, none⟩ (.int .i64) (fun x43 =>
                                                                              .load ⟨n2, 2, none⟩ (.int .i64) (fun x44 =>
                                                                                .load ⟨n2, 3, none⟩ .sl (fun l45 =>
                                                                                  .done (.returned (.tuple #[.agg #[.int .i64 x42, .int .i64 x43, .int .i64 x44, .slice l45.1 l45.2.1 l45.2.2], .int .i64 x41, .int .i64 61]))))))))))))))))))))))))
                                        (.store ⟨n3, 1, none⟩ (.int .i64 r7.1)
                                          (.store ⟨n3, 2, none⟩ (.int .i64 r22.1)
                                            (.load ⟨n3, 0, none⟩ (.int .i64) (fun x46 =>
                                              .load ⟨n3, 1, none⟩ (.int .i64) (fun x47 =>
                                                .load ⟨n3, 2, none⟩ (.int .i64) (fun x48 =>
                                                  .load ⟨n3, 3, none⟩ .sl (fun l49 =>
                                                    .store ⟨n2, 0, none⟩ (.int .i64 x46)
                                                      (.store ⟨n2, 1, none⟩ (.int .i64 x47)
                                                        (.store ⟨n2, 2, none⟩ (.int .i64 x48)
                                                          (.store ⟨n2, 3, none⟩ (.slice l49.1 l49.2.1 l49.2.2)
                                                            (.load ⟨n2, 0, none⟩ (.int .i64) (fun x50 =>
                                                              .load ⟨n2, 1, none⟩ (.int .i64) (fun x51 =>
                                                                .load ⟨n2, 2, none⟩ (.int .i64) (fun x52 =>
                                                                  .load ⟨n2, 3, none⟩ .sl (fun l53 =>
                                                                    .done (.returned (.tuple #[.agg #[.int .i64 x50, .int .i64 x51, .int .i64 x52, .slice l53.1 l53.2.1 l53.2.2], .int .i64 0, .int .i64 0]))))))))))))))))))))))))))))))))))) := by kernel_rfl
/-! the tree of function 28 -/
abbrev fx28_20 (n1 : Nat) (n2 : Nat) (n7 : Nat) : List (Tmp × Value) := [(1, .pointer (some ⟨n1, 0, none⟩)), (2, .pointer (some ⟨n2, 0, none⟩)), (5, .pointer (some ⟨n7, 0, none⟩)), (6, .int .i64 1)]
abbrev mx28_20 : List (Tmp × Comp) := [(31, .leaf .bool)]
def s28_20 : Script := .ld (.int .i64) (.sym (.ld .str (.ld .sl (.lit (.cl (.one (.leaf .str)) (.lit (.lit .nil)))))) (.lit (.lit (.lit .nil))))
theorem t28_20 (n1 : Nat) (n2 : Nat) (n7 : Nat) (g : Nat → Value) : pieceT Tryz.prog (at_ Tryz.f28 [1, 1, 1, 1, 0, 0]) 97 (fx28_20 n1 n2 n7) g (mx28_20.map (·.1)) [] [] s28_20 =
  .load ⟨n7, 0, none⟩ (.int .i64) (fun x21 =>
    .br (x21 == 9)
      (.load ⟨n1, 0, none⟩ .str (fun s22 =>
        .load ⟨n1, 1, none⟩ .sl (fun l23 =>
          .call 25 #[.agg #[.string s22, .slice l23.1 l23.2.1 l23.2.2], .int .i64 1] (.one (.leaf .str)) (fun s24 =>
            .fin .normal [(31, .bool (s24.toList == (bytesL [97, 114, 109]).toList))]))))
      (.fin .normal [(31, .bool false)])) := by kernel_rfl
abbrev fx28_43 (n1 : Nat) (n2 : Nat) (n7 : Nat) (r42 : ByteArray × Int × Unit) : List (Tmp × Value) := [(1, .pointer (some ⟨n1, 0, none⟩)), (2, .pointer (some ⟨n2, 0, none⟩)), (5, .pointer (some ⟨n7, 0, none⟩)), (6, .int .i64 3), (10, .int .i64 r42.2.1)]
abbrev mx28_43 : List (Tmp × Comp) := [(59, .leaf .bool)]
def s28_43 : Script := .ld (.int .i64) (.sym (.ld .str (.ld .sl (.lit (.cl (.one (.leaf .str)) (.lit (.lit .nil)))))) (.lit (.lit (.lit .nil))))
theorem t28_43 (n1 : Nat) (n2 : Nat) (n7 : Nat) (r42 : ByteArray × Int × Unit) (g : Nat → Value) : pieceT Tryz.prog (at_ Tryz.f28 [1, 1, 1, 1, 1, 1, 0, 0]) 97 (fx28_43 n1 n2 n7 r42) g (mx28_43.map (·.1)) [] [] s28_43 =
  .load ⟨n7, 0, none⟩ (.int .i64) (fun x44 =>
    .br (x44 == 7)
      (.load ⟨n1, 0, none⟩ .str (fun s45 =>
        .load ⟨n1, 1, none⟩ .sl (fun l46 =>
          .call 25 #[.agg #[.string s45, .slice l46.1 l46.2.1 l46.2.2], .int .i64 2] (.one (.leaf .str)) (fun s47 =>
            .fin .normal [(59, .bool (s47.toList == (bytesL [97, 102, 116, 101, 114]).toList))]))))
      (.fin .normal [(59, .bool false)])) := by kernel_rfl
abbrev fx28_76 (n2 : Nat) (n7 : Nat) (r42 : ByteArray × Int × Unit) (r58 : (Option Addr × Nat × Nat) × Int × Int × Unit) : List (Tmp × Value) := [(2, .pointer (some ⟨n2, 0, none⟩)), (5, .pointer (some ⟨n7, 0, none⟩)), (10, .int .i64 r42.2.1), (11, .slice r58.1.1 r58.1.2.1 r58.1.2.2)]
abbrev mx28_76 : List (Tmp × Comp) := []
def s28_76 : Script := .sym (.ix (.ld (.int .i64) .nil)) .nil
theorem t28_76 (n2 : Nat) (n7 : Nat) (r42 : ByteArray × Int × Unit) (r58 : (Option Addr × Nat × Nat) × Int × Int × Unit) (g : Nat → Value) : pieceT Tryz.prog (at_ Tryz.f28 [1, 1, 1, 1, 1, 1, 1, 1, 1, 1, 0]) 97 (fx28_76 n2 n7 r42 r58) g (mx28_76.map (·.1)) [] [] s28_76 =
  .br (Decidable.decide (r42.snd.fst > 0))
    (.idx r58.1.1 0 r58.1.2.1 1 (fun a77 =>
      .load a77 (.int .i64) (fun x78 =>
        .store ⟨n7, 1, none⟩ (.int .i64 x78)
          (.fin .normal []))))
    (.fin .normal []) := by kernel_rfl
abbrev fx28_100 (n1 : Nat) (n2 : Nat) (n7 : Nat) (r99 : ByteArray × Int × Unit) : List (Tmp × Value) := [(1, .pointer (some ⟨n1, 0, none⟩)), (2, .pointer (some ⟨n2, 0, none⟩)), (5, .pointer (some ⟨n7, 0, none⟩)), (6, .int .i64 1), (10, .int .i64 r99.2.1)]
abbrev mx28_100 : List (Tmp × Comp) := [(59, .leaf .bool)]
def s28_100 : Script := .ld (.int .i64) (.sym (.ld .str (.ld .sl (.lit (.cl (.one (.leaf .str)) (.lit (.lit .nil)))))) (.lit (.lit (.lit .nil))))
theorem t28_100 (n1 : Nat) (n2 : Nat) (n7 : Nat) (r99 : ByteArray × Int × Unit) (g : Nat → Value) : pieceT Tryz.prog (at_ Tryz.f28 [1, 1, 1, 1, 1, 1, 0, 0]) 97 (fx28_100 n1 n2 n7 r99) g (mx28_100.map (·.1)) [] [] s28_100 =
  .load ⟨n7, 0, none⟩ (.int .i64) (fun x101 =>
    .br (x101 == 7)
      (.load ⟨n1, 0, none⟩ .str (fun s102 =>
        .load ⟨n1, 1, none⟩ .sl (fun l103 =>
          .call 25 #[.agg #[.string s102, .slice l103.1 l103.2.1 l103.2.2], .int .i64 2] (.one (.leaf .str)) (fun s104 =>
            .fin .normal [(59, .bool (s104.toList == (bytesL [97, 102, 116, 101, 114]).toList))]))))
      (.fin .normal [(59, .bool false)])) := by kernel_rfl
abbrev fx28_133 (n2 : Nat) (n7 : Nat) (r99 : ByteArray × Int × Unit) (r115 : (Option Addr × Nat × Nat) × Int × Int × Unit) : List (Tmp × Value) := [(2, .pointer (some ⟨n2, 0, none⟩)), (5, .pointer (some ⟨n7, 0, none⟩)), (10, .int .i64 r99.2.1), (11, .slice r115.1.1 r115.1.2.1 r115.1.2.2)]
abbrev mx28_133 : List (Tmp × Comp) := []
def s28_133 : Script := .sym (.ix (.ld (.int .i64) .nil)) .nil
theorem t28_133 (n2 : Nat) (n7 : Nat) (r99 : ByteArray × Int × Unit) (r115 : (Option Addr × Nat × Nat) × Int × Int × Unit) (g : Nat → Value) : pieceT Tryz.prog (at_ Tryz.f28 [1, 1, 1, 1, 1, 1, 1, 1, 1, 1, 0]) 97 (fx28_133 n2 n7 r99 r115) g (mx28_133.map (·.1)) [] [] s28_133 =
  .br (Decidable.decide (r99.snd.fst > 0))
    (.idx r115.1.1 0 r115.1.2.1 1 (fun a134 =>
      .load a134 (.int .i64) (fun x135 =>
        .store ⟨n7, 1, none⟩ (.int .i64 x135)
          (.fin .normal []))))
    (.fin .normal []) := by kernel_rfl
def s28 : Script := .ld .str (.ld .sl (.cl (.one (.leaf .str)) (.cl (.one (.leaf (.int .i64))) (.ld (.int .i64) (.sym (.hd0 (.hq 0 (.ld (.int .i64) (.ld (.int .i64) (.ld (.int .i64) (.ld .sl (.hq 1 (.ld .str (.ld .sl (.he 2 (.cl (.one (.leaf (.int .i64))) (.he 3 (.hq 4 (.hq 5 (.ld (.int .i64) (.ld (.int .i64) (.ld (.int .i64) (.ld .sl .nil)))))))))))))))))) (.ct 2 [1, 2, 5, 6] mx28_20 (.sym (.ld .str (.ld .sl (.cl (.one (.leaf .str)) (.cl (.tup [.leaf (.int .i64), .leaf .bool]) (.sym (.hd0 (.hq 0 (.ld (.int .i64) (.ld (.int .i64) (.ld (.int .i64) (.ld .sl (.hq 1 (.ld .str (.ld .sl (.he 2 (.cl (.one (.leaf (.int .i64))) (.he 3 (.hq 4 (.hq 5 (.ld (.int .i64) (.ld (.int .i64) (.ld (.int .i64) (.ld .sl .nil)))))))))))))))))) (.ld (.int .i64) (.cl (.tup [.leaf .str, .leaf (.int .i64)]) (.ct 1 [1, 2, 5, 6, 10] mx28_43 (.sym (.ld .str (.ld .sl (.cl (.tup [.agg [.int .i64, .int .i64, .int .i64, .sl], .leaf (.int .i64), .leaf (.int .i64)]) (.ld (.int .i64) (.ld (.int .i64) (.ld (.int .i64) (.ld .sl .nil))))))) (.ld .str (.ld .sl (.cl (.tup [.leaf .sl, .leaf (.int .i64), .leaf (.int .i64)]) (.sym (.ld (.int .i64) (.ld (.int .i64) (.ld (.int .i64) (.ld .sl (.ld (.int .i64) (.ld (.int .i64) (.ld (.int .i64) (.ld .sl .nil)))))))) (.ld (.int .i64) (.sym (.ld (.int .i64) (.ld (.int .i64) (.ld (.int .i64) (.ld .sl (.ld (.int .i64) (.ld (.int .i64) (.ld (.int .i64) (.ld .sl .nil)))))))) (.ct 0 [2, 5, 10, 11] mx28_76 (.sym (.ix (.ld (.int .i64) (.ld (.int .i64) (.ld (.int .i64) (.ld (.int .i64) (.ld .sl (.ld (.int .i64) (.ld (.int .i64) (.ld (.int .i64) (.ld .sl .nil)))))))))) (.ld (.int .i64) (.ld (.int .i64) (.ld (.int .i64) (.ld .sl (.ld (.int .i64) (.ld (.int .i64) (.ld (.int .i64) (.ld .sl .nil))))))))))))))))))))))))) (.ld (.int .i64) (.cl (.tup [.leaf .str, .leaf (.int .i64)]) (.ct 1 [1, 2, 5, 6, 10] mx28_100 (.sym (.ld .str (.ld .sl (.cl (.tup [.agg [.int .i64, .int .i64, .int .i64, .sl], .leaf (.int .i64), .leaf (.int .i64)]) (.ld (.int .i64) (.ld (.int .i64) (.ld (.int .i64) (.ld .sl .nil))))))) (.ld .str (.ld .sl (.cl (.tup [.leaf .sl, .leaf (.int .i64), .leaf (.int .i64)]) (.sym (.ld (.int .i64) (.ld (.int .i64) (.ld (.int .i64) (.ld .sl (.ld (.int .i64) (.ld (.int .i64) (.ld (.int .i64) (.ld .sl .nil)))))))) (.ld (.int .i64) (.sym (.ld (.int .i64) (.ld (.int .i64) (.ld (.int .i64) (.ld .sl (.ld (.int .i64) (.ld (.int .i64) (.ld (.int .i64) (.ld .sl .nil)))))))) (.ct 0 [2, 5, 10, 11] mx28_133 (.sym (.ix (.ld (.int .i64) (.ld (.int .i64) (.ld (.int .i64) (.ld (.int .i64) (.ld .sl (.ld (.int .i64) (.ld (.int .i64) (.ld (.int .i64) (.ld .sl .nil)))))))))) (.ld (.int .i64) (.ld (.int .i64) (.ld (.int .i64) (.ld .sl (.ld (.int .i64) (.ld (.int .i64) (.ld (.int .i64) (.ld .sl .nil)))))))))))))))))))))))))))
theorem t28 (qs0_0 : ByteArray) (qa0_1 : Option Addr) (qn0_1 : Nat) (qc0_1 : Nat) : fnT Tryz.prog Tryz.f28 #[.agg #[.string qs0_0, .slice qa0_1 qn0_1 qc0_1]] s28 =
  .new (.cells #[.string qs0_0, .slice qa0_1 qn0_1 qc0_1] 77 (0, 0)) (fun n1 =>
    .new (.cells #[.int .i64 0, .int .i64 0, .int .i64 0, .slice none 0 0] 38 (0, 0)) (fun n2 =>
      .load ⟨n1, 0, none⟩ .str (fun s3 =>
        .load ⟨n1, 1, none⟩ .sl (fun l4 =>
          .call 25 #[.agg #[.string s3, .slice l4.1 l4.2.1 l4.2.2], .int .i64 0] (.one (.leaf .str)) (fun s5 =>
            .call 63 #[.string s5] (.one (.leaf (.int .i64))) (fun x6 =>
              .new (.cells #[.int .i64 0, .int .i64 0, .int .i64 0, .slice none 0 0] 38 (0, 0)) (fun n7 =>
                .store ⟨n7, 0, none⟩ (.int .i64 x6)
                  (.store ⟨n7, 1, none⟩ (.int .i64 0)
                    (.store ⟨n7, 2, none⟩ (.int .i64 0)
                      (.store ⟨n7, 3, none⟩ (.slice none 0 0)
                        (.load ⟨n7, 0, none⟩ (.int .i64) (fun x8 =>
                          .br (x8 == 0)
                            (.hdrawn
                              (.load ⟨n7, 0, none⟩ (.int .i64) (fun x9 =>
                                .load ⟨n7, 1, none⟩ (.int .i64) (fun x10 =>
                                  .load ⟨n7, 2, none⟩ (.int .i64) (fun x11 =>
                                    .load ⟨n7, 3, none⟩ .sl (fun l12 =>
                                      .load ⟨n1, 0, none⟩ .str (fun s13 =>
                                        .load ⟨n1, 1, none⟩ .sl (fun l14 =>
                                          .eff
                                            (.call 29 #[.agg #[.string s13, .slice l14.1 l14.2.1 l14.2.2], .int .i64 0] (.one (.leaf (.int .i64))) (fun x15 =>
                                              .back
                                                (.eff
                                                  (.store ⟨n2, 0, none⟩ (.int .i64 x9)
                                                    (.store ⟨n2, 1, none⟩ (.int .i64 x10)
                                                      (.store ⟨n2, 2, none⟩ (.int .i64 x11)
                                                        (.store ⟨n2, 3, none⟩ (.slice l12.1 l12.2.1 l12.2.2)
                                                          (.back
                                                            (.undrawn
                                                              (.load ⟨n2, 0, none⟩ (.int .i64) (fun x16 =>
                                                                .load ⟨n2, 1, none⟩ (.int .i64) (fun x17 =>
                                                                  .load ⟨n2, 2, none⟩ (.int .i64) (fun x18 =>
                                                                    .load ⟨n2, 3, none⟩ .sl (fun l19 =>
                                                                      .done (.returned (.tuple #[.agg #[.int .i64 x16, .int .i64 x17, .int .i64 x18, .slice l19.1 l19.2.1 l19.2.2], .int .i64 x15, .int .i64 61]))))))))))))))))))))))))
                            (.cut (at_ Tryz.f28 [1, 1, 1, 1, 0, 0]) 97 (fx28_20 n1 n2 n7) mx28_20 (fun u25 g25 =>
                              .br u25.1
                                (.load ⟨n1, 0, none⟩ .str (fun s26 =>
                                  .load ⟨n1, 1, none⟩ .sl (fun l27 =>
                                    .call 25 #[.agg #[.string s26, .slice l27.1 l27.2.1 l27.2.2], .int .i64 2] (.one (.leaf .str)) (fun s28 =>
                                      .call 62 #[.string s28, .bool false] (.tup [.leaf (.int .i64), .leaf .bool]) (fun r29 =>
                                        .br (!r29.snd.fst)
                                          (.hdrawn
                                            (.load ⟨n7, 0, none⟩ (.int .i64) (fun x30 =>
                                              .load ⟨n7, 1, none⟩ (.int .i64) (fun x31 =>
                                                .load ⟨n7, 2, none⟩ (.int .i64) (fun x32 =>
                                                  .load ⟨n7, 3, none⟩ .sl (fun l33 =>
                                                    .load ⟨n1, 0, none⟩ .str (fun s34 =>
                                                      .load ⟨n1, 1, none⟩ .sl (fun l35 =>
                                                        .eff
                                                          (.call 29 #[.agg #[.string s34, .slice l35.1 l35.2.1 l35.2.2], .int .i64 2] (.one (.leaf (.int .i64))) (fun x36 =>
                                                            .back
                                                              (.eff
                                                                (.store ⟨n2, 0, none⟩ (.int .i64 x30)
                                                                  (.store ⟨n2, 1, none⟩ (.int .i64 x31)
                                                                    (.store ⟨n2, 2, none⟩ (.int .i64 x32)
                                                                      (.store ⟨n2, 3, none⟩ (.slice l33.1 l33.2.1 l33.2.2)
                                                                        (.back
                                                                          (.undrawn
                                                                            (.load ⟨n2, 0, none⟩ (.int .i64) (fun x37 =>
                                                                              .load ⟨n2, 1, none⟩ (.int .i64) (fun x38 =>
                                                                                .load ⟨n2, 2, none⟩ (.int .i64) (fun x39 =>
                                                                                  .load ⟨n2, 3, none⟩ .sl (fun l40 =>
                                                                                    .done (.returned (.tuple #[.agg #[.int .i64 x37, .int .i64 x38, .int .i64 x39, .slice l40.1 l40.2.1 l40.2.2], .int .i64 x36, .int .i64 62]))))))))))))))))))))))))
                                          (.store ⟨n7, 1, none⟩ (.int .i64 (IntKind.i64.wrap (r29.fst + 1)))
                                            (.load ⟨n7, 0, none⟩ (.int .i64) (fun x41 =>
                                              .call 64 #[.int .i64 x41] (.tup [.leaf .str, .leaf (.int .i64)]) (fun r42 =>
                                                .cut (at_ Tryz.f28 [1, 1, 1, 1, 1, 1, 0, 0]) 97 (fx28_43 n1 n2 n7 r42) mx28_43 (fun u48 g48 =>
                                                  .br u48.1
                                                    (.load ⟨n1, 0, none⟩ .str (fun s49 =>
                                                      .load ⟨n1, 1, none⟩ .sl (fun l50 =>
                                                        .call 65 #[.agg #[.string s49, .slice l50.1 l50.2.1 l50.2.2]] (.tup [.agg [.int .i64, .int .i64, .int .i64, .sl], .leaf (.int .i64), .leaf (.int .i64)]) (fun r51 =>
                                                          .store ⟨n2, 0, none⟩ (.int .i64 r51.1.1)
                                                            (.store ⟨n2, 1, none⟩ (.int .i64 r51.1.2.1)
                                                              (.store ⟨n2, 2, none⟩ (.int .i64 r51.1.2.2.1)
                                                                (.store ⟨n2, 3, none⟩ (.slice r51.1.2.2.2.1.1 r51.1.2.2.2.1.2.1 r51.1.2.2.2.1.2.2)
                                                                  (.load ⟨n2, 0, none⟩ (.int .i64) (fun x52 =>
                                                                    .load ⟨n2, 1, none⟩ (.int .i64) (fun x53 =>
                                                                      .load ⟨n2, 2, none⟩ (.int .i64) (fun x54 =>
                                                                        .load ⟨n2, 3, none⟩ .sl (fun l55 =>
                                                                          .done (.returned (.tuple #[.agg #[.int .i64 x52, .int .i64 x53, .int .i64 x54, .slice l55.1 l55.2.1 l55.2.2], .int .i64 r51.2.1, .int .i64 r51.2.2.1]))))))))))))))
                                                    (.load ⟨n1, 0, none⟩ .str (fun s56 =>
                                                      .load ⟨n1, 1, none⟩ .sl (fun l57 =>
                                                        .call 66 #[.agg #[.string s56, .slice l57.1 l57.2.1 l57.2.2], .int .i64 3, .int .i64 r42.2.1] (.tup [.leaf .sl, .leaf (.int .i64), .leaf (.int .i64)]) (fun r58 =>
                                                          .br (r58.snd.snd.fst != 0)
                                                            (.load ⟨n7, 0, none⟩ (.int .i64) (fun x59 =>
                                                              .load ⟨n7, 1, none⟩ (.int .i64) (fun x60 =>
                                                                .load ⟨n7, 2, none⟩ (.int .i64) (fun x61 =>
                                                                  .load ⟨n7, 3, none⟩ .sl (fun l62 =>
                                                                    .store ⟨n2, 0, none⟩ (.int .i64 x59)
                                                                      (.store ⟨n2, 1, none⟩ (.int .i64 x60)
                                                                        (.store ⟨n2, 2, none⟩ (.int .i64 x61)
                                                                          (.store ⟨n2, 3, none⟩ (.slice l62.1 l62.2.1 l62.2.2)
                                                                            (.load ⟨n2, 0, none⟩ (.int .i64) (fun x63 =>
                                                                              .load ⟨n2, 1, none⟩ (.int .i64) (fun x64 =>
                                                                                .load ⟨n2, 2, none⟩ (.int .i64) (fun x65 =>
                                                                                  .load ⟨n2, 3, none⟩ .sl (fun l66 =>
                                                                                    .done (.returned (.tuple #[.agg #[.int .i64 x63, .int .i64 x64, .int .i64 x65, .slice l66.1 l66.2.1 l66.2.2], .int .i64 r58.2.1, .int .i64 r58.2.2.1])))))))))))))))
                                                            (.load ⟨n7, 0, none⟩ (.int .i64) (fun x67 =>
                                                              .br (x67 == 9)
                                                                (.store ⟨n7, 3, none⟩ (.slice r58.1.1 r58.1.2.1 r58.1.2.2)
                                                                  (.load ⟨n7, 0, none⟩ (.int .i64) (fun x68 =>
                                                                    .load ⟨n7, 1, none⟩ (.int .i64) (fun x69 =>
                                                                      .load ⟨n7, 2, none⟩ (.int .i64) (fun x70 =>
                                                                        .load ⟨n7, 3, none⟩ .sl (fun l71 =>
                                                                          .store ⟨n2, 0, none⟩ (.int .i64 x68)
                                                                            (.store ⟨n2, 1, none⟩ (.int .i64 x69)
                                                                              (.store ⟨n2, 2, none⟩ (.int .i64 x70)
                                                                                (.store ⟨n2, 3, none⟩ (.slice l71.1 l71.2.1 l71.2.2)
                                                                                  (.load ⟨n2, 0, none⟩ (.int .i64) (fun x72 =>
                                                                                    .load ⟨n2, 1, none⟩ (.int .i64) (fun x73 =>
                                                                                      .load ⟨n2, 2, none⟩ (.int .i64) (fun x74 =>
                                                                                        .load ⟨n2, 3, none⟩ .sl (fun l75 =>
                                                                                          .done (.returned (.tuple #[.agg #[.int .i64 x72, .int .i64 x73, .int .i64 x74, .slice l75.1 l75.2.1 l75.2.2], .int .i64 0, .int .i64 0]))))))))))))))))
                                                                (.cut (at_ Tryz.f28 [1, 1, 1, 1, 1, 1, 1, 1, 1, 1, 0]) 97 (fx28_76 n2 n7 r42 r58) mx28_76 (fun u79 g79 =>
                                                                  .br (Decidable.decide (r42.snd.fst > 1))
                                                                    (.idx r58.1.1 1 r58.1.2.1 1 (fun a80 =>
                                                                      .load a80 (.int .i64) (fun x81 =>
                                                                        .store ⟨n7, 2, none⟩ (.int .i64 x81)
                                                                          (.load ⟨n7, 0, none⟩ (.int .i64) (fun x82 =>
                                                                            .load ⟨n7, 1, none⟩ (.int .i64) (fun x83 =>
                                                                              .load ⟨n7, 2, none⟩ (.int .i64) (fun x84 =>
                                                                                .load ⟨n7, 3, none⟩ .sl (fun l85 =>
                                                                                  .store ⟨n2, 0, none⟩ (.int .i64 x82)
                                                                                    (.store ⟨n2, 1, none⟩ (.int .i64 x83)
                                                                                      (.store ⟨n2, 2, none⟩ (.int .i64 x84)
                                                                                        (.store ⟨n2, 3, none⟩ (.slice l85.1 l85.2.1 l85.2.2)
                                                                                          (.load ⟨n2, 0, none⟩ (.int .i64) (fun x86 =>
                                                                                            .load ⟨n2, 1, none⟩ (.int .i64) (fun x87 =>
                                                                                              .load ⟨n2, 2, none⟩ (.int .i64) (fun x88 =>
                                                                                                .load ⟨n2, 3, none⟩ .sl (fun l89 =>
                                                                                                  .done (.returned (.tuple #[.agg #[.int .i64 x86, .int .i64 x87, .int .i64 x88, .slice l89.1 l89.2.1 l89.2.2], .int .i64 0, .int .i64 0]))))))))))))))))))
                                                                    (.load ⟨n7, 0, none⟩ (.int .i64) (fun x90 =>
                                                                      .load ⟨n7, 1, none⟩ (.int .i64) (fun x91 =>
                                                                        .load ⟨n7, 2, none⟩ (.int .i64) (fun x92 =>
                                                                          .load ⟨n7, 3, none⟩ .sl (fun l93 =>
                                                                            .store ⟨n2, 0, none⟩ (.int .i64 x90)
                                                                              (.store ⟨n2, 1, none⟩ (.int .i64 x91)
                                                                                (.store ⟨n2, 2, none⟩ (.int .i64 x92)
                                                                                  (.store ⟨n2, 3, none⟩ (.slice l93.1 l93.2.1 l93.2.2)
                                                                                    (.load ⟨n2, 0, none⟩ (.int .i64) (fun x94 =>
                                                                                      .load ⟨n2, 1, none⟩ (.int .i64) (fun x95 =>
                                                                                        .load ⟨n2, 2, none⟩ (.int .i64) (fun x96 =>
                                                                                          .load ⟨n2, 3, none⟩ .sl (fun l97 =>
                                                                                            .done (.returned (.tuple #[.agg #[.int .i64 x94, .int .i64 x95, .int .i64 x96, .slice l97.1 l97.2.1 l97.2.2], .int .i64 0, .int .i64 0])))))))))))))))))))))))))))))))))
                                (.load ⟨n7, 0, none⟩ (.int .i64) (fun x98 =>
                                  .call 64 #[.int .i64 x98] (.tup [.leaf .str, .leaf (.int .i64)]) (fun r99 =>
                                    .cut (at_ Tryz.f28 [1, 1, 1, 1, 1, 1, 0, 0]) 97 (fx28_100 n1 n2 n7 r99) mx28_100 (fun u105 g105 =>
                                      .br u105.1
                                        (.load ⟨n1, 0, none⟩ .str (fun s106 =>
                                          .load ⟨n1, 1, none⟩ .sl (fun l107 =>
                                            .call 65 #[.agg #[.string s106, .slice l107.1 l107.2.1 l107.2.2]] (.tup [.agg [.int .i64, .int .i64, .int .i64, .sl], .leaf (.int .i64), .leaf (.int .i64)]) (fun r108 =>
                                              .store ⟨n2, 0, none⟩ (.int .i64 r108.1.1)
                                                (.store ⟨n2, 1, none⟩ (.int .i64 r108.1.2.1)
                                                  (.store ⟨n2, 2, none⟩ (.int .i64 r108.1.2.2.1)
                                                    (.store ⟨n2, 3, none⟩ (.slice r108.1.2.2.2.1.1 r108.1.2.2.2.1.2.1 r108.1.2.2.2.1.2.2)
                                                      (.load ⟨n2, 0, none⟩ (.int .i64) (fun x109 =>
                                                        .load ⟨n2, 1, none⟩ (.int .i64) (fun x110 =>
                                                          .load ⟨n2, 2, none⟩ (.int .i64) (fun x111 =>
                                                            .load ⟨n2, 3, none⟩ .sl (fun l112 =>
                                                              .done (.returned (.tuple #[.agg #[.int .i64 x109, .int .i64 x110, .int .i64 x111, .slice l112.1 l112.2.1 l112.2.2], .int .i64 r108.2.1, .int .i64 r108.2.2.1]))))))))))))))
                                        (.load ⟨n1, 0, none⟩ .str (fun s113 =>
                                          .load ⟨n1, 1, none⟩ .sl (fun l114 =>
                                            .call 66 #[.agg #[.string s113, .slice l114.1 l114.2.1 l114.2.2], .int .i64 1, .int .i64 r99.2.1] (.tup [.leaf .sl, .leaf (.int .i64), .leaf (.int .i64)]) (fun r115 =>
                                              .br (r115.snd.snd.fst != 0)
                                                (.load ⟨n7, 0, none⟩ (.int .i64) (fun x116 =>
                                                  .load ⟨n7, 1, none⟩ (.int .i64) (fun x117 =>
                                                    .load ⟨n7, 2, none⟩ (.int .i64) (fun x118 =>
                                                      .load ⟨n7, 3, none⟩ .sl (fun l119 =>
                                                        .store ⟨n2, 0, none⟩ (.int .i64 x116)
                                                          (.store ⟨n2, 1, none⟩ (.int .i64 x117)
                                                            (.store ⟨n2, 2, none⟩ (.int .i64 x118)
                                                              (.store ⟨n2, 3, none⟩ (.slice l119.1 l119.2.1 l119.2.2)
                                                                (.load ⟨n2, 0, none⟩ (.int .i64) (fun x120 =>
                                                                  .load ⟨n2, 1, none⟩ (.int .i64) (fun x121 =>
                                                                    .load ⟨n2, 2, none⟩ (.int .i64) (fun x122 =>
                                                                      .load ⟨n2, 3, none⟩ .sl (fun l123 =>
                                                                        .done (.returned (.tuple #[.agg #[.int .i64 x120, .int .i64 x121, .int .i64 x122, .slice l123.1 l123.2.1 l123.2.2], .int .i64 r115.2.1, .int .i64 r115.2.2.1])))))))))))))))
                                                (.load ⟨n7, 0, none⟩ (.int .i64) (fun x124 =>
                                                  .br (x124 == 9)
                                                    (.store ⟨n7, 3, none⟩ (.slice r115.1.1 r115.1.2.1 r115.1.2.2)
                                                      (.load ⟨n7, 0, none⟩ (.int .i64) (fun x125 =>
                                                        .load ⟨n7, 1, none⟩ (.int .i64) (fun x126 =>
                                                          .load ⟨n7, 2, none⟩ (.int .i64) (fun x127 =>
                                                            .load ⟨n7, 3, none⟩ .sl (fun l128 =>
                                                              .store ⟨n2, 0, none⟩ (.int .i64 x125)
                                                                (.store ⟨n2, 1, none⟩ (.int .i64 x126)
                                                                  (.store ⟨n2, 2, none⟩ (.int .i64 x127)
                                                                    (.store ⟨n2, 3, none⟩ (.slice l128.1 l128.2.1 l128.2.2)
                                                                      (.load ⟨n2, 0, none⟩ (.int .i64) (fun x129 =>
                                                                        .load ⟨n2, 1, none⟩ (.int .i64) (fun x130 =>
                                                                          .load ⟨n2, 2, none⟩ (.int .i64) (fun x131 =>
                                                                            .load ⟨n2, 3, none⟩ .sl (fun l132 =>
                                                                              .done (.returned (.tuple #[.agg #[.int .i64 x129, .int .i64 x130, .int .i64 x131, .slice l132.1 l132.2.1 l132.2.2], .int .i64 0, .int .i64 0]))))))))))))))))
                                                    (.cut (at_ Tryz.f28 [1, 1, 1, 1, 1, 1, 1, 1, 1, 1, 0]) 97 (fx28_133 n2 n7 r99 r115) mx28_133 (fun u136 g136 =>
                                                      .br (Decidable.decide (r99.snd.fst > 1))
                                                        (.idx r115.1.1 1 r115.1.2.1 1 (fun a137 =>
                                                          .load a137 (.int .i64) (fun x138 =>
                                                            .store ⟨n7, 2, none⟩ (.int .i64 x138)
                                                              (.load ⟨n7, 0, none⟩ (.int .i64) (fun x139 =>
                                                                .load ⟨n7, 1, none⟩ (.int .i64) (fun x140 =>
                                                                  .load ⟨n7, 2, none⟩ (.int .i64) (fun x141 =>
                                                                    .load ⟨n7, 3, none⟩ .sl (fun l142 =>
                                                                      .store ⟨n2, 0, none⟩ (.int .i64 x139)
                                                                        (.store ⟨n2, 1, none⟩ (.int .i64 x140)
                                                                          (.store ⟨n2, 2, none⟩ (.int .i64 x141)
                                                                            (.store ⟨n2, 3, none⟩ (.slice l142.1 l142.2.1 l142.2.2)
                                                                              (.load ⟨n2, 0, none⟩ (.int .i64) (fun x143 =>
                                                                                .load ⟨n2, 1, none⟩ (.int .i64) (fun x144 =>
                                                                                  .load ⟨n2, 2, none⟩ (.int .i64) (fun x145 =>
                                                                                    .load ⟨n2, 3, none⟩ .sl (fun l146 =>
                                                                                      .done (.returned (.tuple #[.agg #[.int .i64 x143, .int .i64 x144, .int .i64 x145, .slice l146.1 l146.2.1 l146.2.2], .int .i64 0, .int .i64 0]))))))))))))))))))
                                                        (.load ⟨n7, 0, none⟩ (.int .i64) (fun x147 =>
                                                          .load ⟨n7, 1, none⟩ (.int .i64) (fun x148 =>
                                                            .load ⟨n7, 2, none⟩ (.int .i64) (fun x149 =>
                                                              .load ⟨n7, 3, none⟩ .sl (fun l150 =>
                                                                .store ⟨n2, 0, none⟩ (.int .i64 x147)
                                                                  (.store ⟨n2, 1, none⟩ (.int .i64 x148)
                                                                    (.store ⟨n2, 2, none⟩ (.int .i64 x149)
                                                                      (.store ⟨n2, 3, none⟩ (.slice l150.1 l150.2.1 l150.2.2)
                                                                        (.load ⟨n2, 0, none⟩ (.int .i64) (fun x151 =>
                                                                          .load ⟨n2, 1, none⟩ (.int .i64) (fun x152 =>
                                                                            .load ⟨n2, 2, none⟩ (.int .i64) (fun x153 =>
                                                                              .load ⟨n2, 3, none⟩ .sl (fun l154 =>
                                                                                .done (.returned (.tuple #[.agg #[.int .i64 x151, .int .i64 x152, .int .i64 x153, .slice l154.1 l154.2.1 l154.2.2], .int .i64 0, .int .i64 0]))))))))))))))))))))))))))))))))))))))))) := by kernel_rfl

theorem word_nil {r : List UInt8} : wordS r = [] ↔ skipS r = [] := by
  constructor
  · intro h
    cases hs : skipS r with
    | nil => rfl
    | cons c t =>
      obtain ⟨t', ht⟩ := word_head hs
      rw [ht] at h; cases h
  · intro h
    unfold wordS
    rw [h]; rfl
def numsM (L : Nat) : Nat → List UInt8 → List Int → PRes (List Int)
  | 0, r, acc => match endM L r with
    | .error e => .error e
    | .ok _ => .ok acc
  | n + 1, r, acc => match numberM L true r with
    | .error e => .error e
    | .ok (m, r') => numsM L n r' (acc ++ [m])
def resG (L : Nat) (m : Int) (r : List UInt8) (acc : List Int) : PRes (List Int) := if m < 0 then keepR L r acc else numsM L (m.toNat - acc.length) r acc
theorem resG_go {L : Nat} {m : Int} {r : List UInt8} {acc : List Int} (h : (m < 0 ∧ skipS r ≠ []) ∨ (0 ≤ m ∧ (acc.length : Int) < m)) : resG L m r acc = match numM true (wordS r) with
    | none => .error (L - (skipS r).length, 62)
    | some x => resG L m (afterS r) (acc ++ [x]) := by
  unfold resG
  rcases h with ⟨h1, h2⟩ | ⟨h1, h2⟩
  · rw [if_pos h1]
    cases hn : numM true (wordS r) with
    | none => dsimp only; exact keepR_err h2 (by unfold numberM; rw [hn])
    | some x => dsimp only; rw [if_pos h1]; exact (keepR_step h2 (by unfold numberM; rw [hn])).1
  · rw [if_neg (by omega)]
    obtain ⟨k, hk⟩ : ∃ k, m.toNat - acc.length = k + 1 := ⟨m.toNat - acc.length - 1, by omega⟩
    rw [hk, numsM]
    unfold numberM
    cases hn : numM true (wordS r) with
    | none => rfl
    | some x => dsimp only; rw [if_neg (by omega), List.length_append, List.length_singleton, show m.toNat - (acc.length + 1) = k by omega]
theorem resG_stop {L : Nat} {m : Int} {r : List UInt8} {acc : List Int} (h : ¬ ((m < 0 ∧ skipS r ≠ []) ∨ (0 ≤ m ∧ (acc.length : Int) < m))) : resG L m r acc = if skipS r = [] then .ok acc else .error (L - (skipS r).length, 61) := by
  unfold resG
  by_cases hm : m < 0
  · have hs : skipS r = [] := Decidable.byContradiction fun hs => h (.inl ⟨hm, hs⟩)
    rw [if_pos hm, if_pos hs, keepR_end hs]
  · have hl : m.toNat - acc.length = 0 := by
      have : ¬ ((acc.length : Int) < m) := fun h' => h (.inr ⟨by omega, h'⟩)
      omega
    rw [if_neg hm, hl, numsM]
    unfold endM
    by_cases hs : skipS r = []
    · rw [if_pos hs, if_pos (word_nil.2 hs)]
    · rw [if_neg hs, if_neg (fun h => hs (word_nil.1 h))]
theorem nums_len (L : Nat) : ∀ (n : Nat) (r : List UInt8) (acc l : List Int), numsM L n r acc = .ok l → l.length = acc.length + n
  | 0, r, acc, l, h => by
    unfold numsM at h
    split at h <;> cases h
    rfl
  | n + 1, r, acc, l, h => by
    unfold numsM at h
    split at h
    · cases h
    · have := nums_len L n _ _ l h
      rw [List.length_append, List.length_singleton] at this
      omega
theorem rnums_any (s : ByteArray) (p : Option Addr) (n c k : Nat) (hk : k ≤ 10) (m : Int) (hm : m ≤ 9) (w : World) (h : AtW w p n (wordsR s.size s.data.toList)) (hn : n ≤ 10001) :
    Calls Tryz.prog 66 #[lineV s p n c, .int .i64 k, .int .i64 m] w fun e w' => Ch No w w' ∧ match resG s.size m (aft k s.data.toList) [] with
      | .ok l => ∃ p n c, e = .returned (.tuple #[.slice p n c, .int .i64 0, .int .i64 0]) ∧ Row w' w.heap.size tInt 1 p n c (intCells l)
      | .error (pl, cd) => e = .returned (.tuple #[.slice none 0 0, .int .i64 pl, .int .i64 cd]) ∧ cd ≠ 0 := by
  unfold lineV
  refine calls_of_fnT mixed Tryz.func66 (s := s66) ?_
  rw [t66]
  refine nw fun w1 h1 z1 b1 => ?_
  have hlt := fun k => words_lt s.size k s.data.toList
  have hwn := h.1
  generalize hr : resG s.size m (aft k s.data.toList) [] = RES
  refine loop_i mixed m66_2 s66_2 (by kernel_rfl) (by kernel_rfl)
    (fun (v : Int × (Option Addr × Nat × Nat) × Unit) w' => ∃ acc, v.1 = ((k + acc.length : Nat) : Int) ∧ Ch No w1 w' ∧ Row w' w1.heap.size tInt 1 v.2.1.1 v.2.1.2.1 v.2.1.2.2 (intCells acc) ∧ resG s.size m (aft (k + acc.length) s.data.toList) acc = RES ∧ acc.length ≤ 20000)
    (fun (v : Int × (Option Addr × Nat × Nat) × Unit) _ => (n - v.1.toNat) + (m.toNat - v.2.1.2.1)) ((k : Int), (none, 0, 0), ()) rfl ⟨[], rfl, Ch.refl _ _, Row.nil _ _ _ _, hr, by simp⟩ ?_
  rintro ⟨(i : Int), ⟨q, nn, d⟩, ⟨⟩⟩ g w2 ⟨acc, (hi : i = _), h2, (row : Row w2 _ tInt 1 q nn d _), hres, hb⟩
  subst hi
  have b2 := b1.ch h2 (fun h => h)
  have A2 := (h.no h1).no h2
  have H2 := h1.trans h2
  have hl := row.len
  simp only [intCells, List.length_map, Nat.mul_one] at hl
  rw [t66_2]
  refine cut_i mixed s66_3 (fun (v : Bool × Unit) w' => w' = w2 ∧ (v.1 = true ↔ (m < 0 ∧ skipS (aft (k + acc.length) s.data.toList) ≠ []) ∨ (0 ≤ m ∧ (acc.length : Int) < m))) (by kernel_rfl) (fun g => ?_) ?_
  · rw [t66_3]
    refine br_both (fun e => ?_) fun e => ?_
    · have hneg : m < 0 := lt_t e
      refine ld_sl (b2.cell 1) (br_both (fun e => ⟨rfl, (_, ()), rfl, rfl, ?_⟩) fun e => ⟨rfl, (_, ()), rfl, rfl, ?_⟩)
      · have e := lt_t e
        dsimp only at e
        exact ⟨fun _ => .inl ⟨hneg, (hlt _).1 (by omega)⟩, fun _ => rfl⟩
      · have e := lt_f e
        dsimp only at e
        refine ⟨fun h => ?_, fun h => ?_⟩
        · have h : (nn : Int) < m := lt_t h
          omega
        · rcases h with h | h
          · have := (hlt _).2 h.2
            omega
          · omega
    · have hneg : 0 ≤ m := lt_f e
      refine ⟨rfl, (_, ()), rfl, rfl, ?_⟩
      refine ⟨fun h => ?_, fun h => ?_⟩
      · have h : (nn : Int) < m := lt_t h
        exact .inr ⟨hneg, by omega⟩
      · refine decide_eq_true ?_
        show (nn : Int) < m
        omega
  rintro ⟨u, ⟨⟩⟩ g w3 ⟨rfl, hu⟩
  dsimp only at hu
  refine br_both (fun e => ?_) fun e => ?_
  · have hgo := hu.1 e
    rw [resG_go hgo] at hres
    refine ld_str (b2.cell 0) (ld_sl (b2.cell 1) (cl_i (rword_any s p n c (k + acc.length) w3 A2) ?_))
    rintro e w4 ⟨rfl, h4⟩
    refine ⟨_, rfl, ?_⟩
    refine cl_i (rnumber_any _ true w4) ?_
    rintro e w5 ⟨rfl, rfl⟩
    refine ⟨(_, _, ()), rfl, ?_⟩
    rw [tb_data]
    have b4 := b2.ch h4 (fun h => h)
    have A4 := A2.no h4
    cases hq : numM true (wordS (aft (k + acc.length) s.data.toList)) with
    | none =>
      rw [hq] at hres
      dsimp only at hres
      refine br_true rfl (ld_str (b4.cell 0) (ld_sl (b4.cell 1) (cl_i (rat_any s p n c (k + acc.length) w5 A4) ?_)))
      rintro e w6 ⟨rfl, h6⟩
      refine ⟨_, rfl, ⟨((none, 0, 0), _, 62, ()), rfl, fun g => ?_⟩⟩
      subst hres
      exact ⟨H2.trans (h4.trans h6), rfl, by decide⟩
    | some x =>
      rw [hq] at hres
      dsimp only at hres
      refine br_false rfl (nw fun w6 h6 z6 b6 => ?_)
      have row6 := (row.no h4).no h6
      refine ap_blk (by kernel_rfl) infoInt rfl (by omega) row6 (by have := h2.size; have := h4.size; omega) b6 (by simp) (fun u hu => by simp at hu; subst hu; rfl) (by unfold maxLen; omega) (by omega) fun q' d' w7 g7 => ?_
      have hch : Ch No w1 w7 := (h2.trans (h4.trans h6)).then_ g7.ch (fun i hi hS => by have := (row6.lt hS).1; omega)
      have hnum : acc.length ≤ 19999 := by
        rcases hgo with ⟨_, h'⟩ | ⟨_, h'⟩
        · have := (hlt _).2 h'
          omega
        · omega
      have hmu : (n - (k + acc.length + 1)) + (m.toNat - (nn + 1)) < (n - (k + acc.length)) + (m.toNat - nn) := by
        rcases hgo with ⟨_, h'⟩ | ⟨_, h'⟩
        · have := (hlt _).2 h'
          omega
        · omega
      refine ⟨(((k + acc.length + 1 : Nat) : Int), (q', nn + 1, d'), ()), ?_, ⟨acc ++ [x], ?_, hch, ?_, ?_, ?_⟩, hmu⟩
      · rw [wrap_succ (by omega) (by omega)]
        rfl
      · rw [List.length_append, List.length_singleton]
        rfl
      · have := g7.own
        simpa [intCells] using this
      · rw [List.length_append, List.length_singleton, ← Nat.add_assoc, aft_succ]
        exact hres
      · rw [List.length_append, List.length_singleton]
        omega
  · have hgo : ¬ _ := fun h => by rw [hu.2 h] at e; cases e
    rw [resG_stop hgo] at hres
    refine ⟨rfl, (_, _, ()), rfl, fun g => ?_⟩
    refine ld_sl (b2.cell 1) (br_both (fun e => ?_) fun e => ?_)
    · have e : ((k + acc.length : Nat) : Int) < (n : Int) := lt_t e
      have hs := (hlt (k + acc.length)).1 (by omega)
      rw [if_neg hs] at hres
      subst hres
      refine ld_str (b2.cell 0) (ld_sl (b2.cell 1) (cl_i (rat_any s p n c (k + acc.length) w3 A2) ?_))
      rintro e w6 ⟨rfl, h6⟩
      exact ⟨_, rfl, H2.trans h6, rfl, by decide⟩
    · have e : (n : Int) ≤ ((k + acc.length : Nat) : Int) := lt_f e
      have hs : skipS (aft (k + acc.length) s.data.toList) = [] := Decidable.byContradiction fun h => by have := (hlt _).2 h; omega
      rw [if_pos hs] at hres
      subst hres
      exact ⟨H2, _, _, _, rfl, row.base (by omega)⟩
end Go.Proofs.YtjlmkahagcojcaaGreatDoor
