/- A step's operands: survivors, failing, operands. -/
import Derived.Test.YtjlmkahagcojcaaGreatDoorNub
namespace Go.Proofs.YtjlmkahagcojcaaGreatDoor
open Go Tr
set_option maxRecDepth 100000
/-! the tree of function 95 -/
abbrev fx95_15 (qa0 : Addr) (n1 : Nat) (n2 : Nat) : List (Tmp × Value) := [(0, .pointer (some qa0)), (3, .pointer (some ⟨n1, 0, none⟩)), (4, .pointer (some ⟨n2, 0, none⟩))]
abbrev m95_15 : List (Tmp × Comp) := []
abbrev mx95_15 : List (Tmp × Comp) := []
abbrev mr95_15 : List (Tmp × Comp) := [(5, .leaf .any)]
def s95_15 : Script := .cl (.one (.leaf .bool)) (.sym (.cl (.tup [.leaf (.int .i64), .leaf .any]) (.nop (.nop (.nop (.nop (.nop (.nop (.rn (.one (.leaf .bool)) (.sym (.ld (.int .i64) (.ld (.int .i64) (.ld (.int .i64) (.ld .sl .nil)))) (.ld .sl (.nop (.nop (.rn (.one (.leaf .sl)) .nil))))))))))))) .nil)
theorem t95_15 (qa0 : Addr) (n1 : Nat) (n2 : Nat) (g : Nat → Value) : pieceT Tryz.prog (at_ Tryz.f95 [1, 1, 1, 0, 0, 0]) 58 (fx95_15 qa0 n1 n2 ++ mvals m95_15 (())) g (m95_15.map (·.1)) (mx95_15.map (·.1)) (mr95_15.map (·.1)) s95_15 =
  .call 127 #[.pointer (some qa0)] (.one (.leaf .bool)) (fun b16 =>
    .br b16
      (.call 97 #[.pointer (some qa0), .bool true] (.tup [.leaf (.int .i64), .leaf .any]) (fun r17 =>
        .run (vNext (guarded .neq 24 (.tmp 47) (.const .nilIface) r17.snd.1 .nilIface)) (.one (.leaf .bool)) (fun b18 =>
          .br b18
            (.load ⟨n1, 0, none⟩ (.int .i64) (fun x19 =>
              .load ⟨n1, 1, none⟩ (.int .i64) (fun x20 =>
                .load ⟨n1, 2, none⟩ (.int .i64) (fun x21 =>
                  .load ⟨n1, 3, none⟩ .sl (fun l22 =>
                    .store ⟨n2, 0, none⟩ (.int .i64 x19)
                      (.store ⟨n2, 1, none⟩ (.int .i64 x20)
                        (.store ⟨n2, 2, none⟩ (.int .i64 x21)
                          (.store ⟨n2, 3, none⟩ (.slice l22.1 l22.2.1 l22.2.2)
                            (.fin .ret [(5, r17.snd.1)])))))))))
            (.load ⟨n1, 3, none⟩ .sl (fun l23 =>
              .new (.cells #[.int .i64 r17.1] 3 (0, 0)) (fun n24 =>
                .run (builtin .append #[36, 36] 36 #[false, false] #[.slice l23.1 l23.2.1 l23.2.2, .slice (some ⟨n24, 0, none⟩) 1 1]) (.one (.leaf .sl)) (fun l25 =>
                  .store ⟨n1, 3, none⟩ (.slice l25.1 l25.2.1 l25.2.2)
                    (.fin .normal []))))))))
      (.fin (.exit 0) [])) := by kernel_rfl
abbrev fx95_40 (qa0 : Addr) (n1 : Nat) (n2 : Nat) : List (Tmp × Value) := [(0, .pointer (some qa0)), (3, .pointer (some ⟨n1, 0, none⟩)), (4, .pointer (some ⟨n2, 0, none⟩))]
abbrev m95_40 : List (Tmp × Comp) := []
abbrev mx95_40 : List (Tmp × Comp) := []
abbrev mr95_40 : List (Tmp × Comp) := [(5, .leaf .any)]
def s95_40 : Script := .cl (.one (.leaf .bool)) (.sym (.cl (.tup [.leaf (.int .i64), .leaf .any]) (.nop (.nop (.nop (.nop (.nop (.nop (.rn (.one (.leaf .bool)) (.sym (.ld (.int .i64) (.ld (.int .i64) (.ld (.int .i64) (.ld .sl .nil)))) (.ld .sl (.nop (.nop (.rn (.one (.leaf .sl)) .nil))))))))))))) .nil)
theorem t95_40 (qa0 : Addr) (n1 : Nat) (n2 : Nat) (g : Nat → Value) : pieceT Tryz.prog (at_ Tryz.f95 [1, 1, 1, 0, 0, 0]) 58 (fx95_40 qa0 n1 n2 ++ mvals m95_40 (())) g (m95_40.map (·.1)) (mx95_40.map (·.1)) (mr95_40.map (·.1)) s95_40 =
  .call 127 #[.pointer (some qa0)] (.one (.leaf .bool)) (fun b41 =>
    .br b41
      (.call 97 #[.pointer (some qa0), .bool true] (.tup [.leaf (.int .i64), .leaf .any]) (fun r42 =>
        .run (vNext (guarded .neq 24 (.tmp 47) (.const .nilIface) r42.snd.1 .nilIface)) (.one (.leaf .bool)) (fun b43 =>
          .br b43
            (.load ⟨n1, 0, none⟩ (.int .i64) (fun x44 =>
              .load ⟨n1, 1, none⟩ (.int .i64) (fun x45 =>
                .load ⟨n1, 2, none⟩ (.int .i64) (fun x46 =>
                  .load ⟨n1, 3, none⟩ .sl (fun l47 =>
                    .store ⟨n2, 0, none⟩ (.int .i64 x44)
                      (.store ⟨n2, 1, none⟩ (.int .i64 x45)
                        (.store ⟨n2, 2, none⟩ (.int .i64 x46)
                          (.store ⟨n2, 3, none⟩ (.slice l47.1 l47.2.1 l47.2.2)
                            (.fin .ret [(5, r42.snd.1)])))))))))
            (.load ⟨n1, 3, none⟩ .sl (fun l48 =>
              .new (.cells #[.int .i64 r42.1] 3 (0, 0)) (fun n49 =>
                .run (builtin .append #[36, 36] 36 #[false, false] #[.slice l48.1 l48.2.1 l48.2.2, .slice (some ⟨n49, 0, none⟩) 1 1]) (.one (.leaf .sl)) (fun l50 =>
                  .store ⟨n1, 3, none⟩ (.slice l50.1 l50.2.1 l50.2.2)
                    (.fin .normal []))))))))
      (.fin (.exit 0) [])) := by kernel_rfl
def s95 : Script := .ld (.int .i64) (.cl (.tup [.leaf .str, .leaf (.int .i64)]) (.sym (.cl (.tup [.leaf (.int .i64), .leaf .any]) (.nop (.nop (.nop (.nop (.nop (.nop (.rn (.one (.leaf .bool)) (.sym (.ld (.int .i64) (.ld (.int .i64) (.ld (.int .i64) (.ld .sl (.ld (.int .i64) (.ld (.int .i64) (.ld (.int .i64) (.ld .sl .nil)))))))) (.lp 0 [0, 3, 4] [] mx95_15 mr95_15 (.ld (.int .i64) (.ld (.int .i64) (.ld (.int .i64) (.ld .sl (.ld (.int .i64) (.ld (.int .i64) (.ld (.int .i64) (.ld .sl .nil)))))))) (.ld (.int .i64) (.ld (.int .i64) (.ld (.int .i64) (.ld .sl .nil)))))))))))))) (.lp 0 [0, 3, 4] [] mx95_40 mr95_40 (.ld (.int .i64) (.ld (.int .i64) (.ld (.int .i64) (.ld .sl (.ld (.int .i64) (.ld (.int .i64) (.ld (.int .i64) (.ld .sl .nil)))))))) (.ld (.int .i64) (.ld (.int .i64) (.ld (.int .i64) (.ld .sl .nil)))))))
theorem t95 (qa0 : Addr) (qx1_0 : Int) (qx1_1 : Int) (qx1_2 : Int) (qa1_3 : Option Addr) (qn1_3 : Nat) (qc1_3 : Nat) : fnT Tryz.prog Tryz.f95 #[.pointer (some qa0), .agg #[.int .i64 qx1_0, .int .i64 qx1_1, .int .i64 qx1_2, .slice qa1_3 qn1_3 qc1_3]] s95 =
  .new (.cells #[.int .i64 qx1_0, .int .i64 qx1_1, .int .i64 qx1_2, .slice qa1_3 qn1_3 qc1_3] 38 (0, 0)) (fun n1 =>
    .new (.cells #[.int .i64 0, .int .i64 0, .int .i64 0, .slice none 0 0] 38 (0, 0)) (fun n2 =>
      .load (qa0.add 2) (.int .i64) (fun x3 =>
        .call 56 #[.pointer (some qa0)] (.tup [.leaf .str, .leaf (.int .i64)]) (fun r4 =>
          .br (r4.fst.toList == (bytesL [97, 114, 109]).toList)
            (.call 97 #[.pointer (some qa0), .bool false] (.tup [.leaf (.int .i64), .leaf .any]) (fun r5 =>
              .run (vNext (guarded .neq 24 (.tmp 29) (.const .nilIface) r5.snd.1 .nilIface)) (.one (.leaf .bool)) (fun b6 =>
                .br b6
                  (.load ⟨n1, 0, none⟩ (.int .i64) (fun x7 =>
                    .load ⟨n1, 1, none⟩ (.int .i64) (fun x8 =>
                      .load ⟨n1, 2, none⟩ (.int .i64) (fun x9 =>
                        .load ⟨n1, 3, none⟩ .sl (fun l10 =>
                          .store ⟨n2, 0, none⟩ (.int .i64 x7)
                            (.store ⟨n2, 1, none⟩ (.int .i64 x8)
                              (.store ⟨n2, 2, none⟩ (.int .i64 x9)
                                (.store ⟨n2, 3, none⟩ (.slice l10.1 l10.2.1 l10.2.2)
                                  (.load ⟨n2, 0, none⟩ (.int .i64) (fun x11 =>
                                    .load ⟨n2, 1, none⟩ (.int .i64) (fun x12 =>
                                      .load ⟨n2, 2, none⟩ (.int .i64) (fun x13 =>
                                        .load ⟨n2, 3, none⟩ .sl (fun l14 =>
                                          .done (.returned (.tuple #[.agg #[.int .i64 x11, .int .i64 x12, .int .i64 x13, .slice l14.1 l14.2.1 l14.2.2], r5.snd.1])))))))))))))))
                  (.store ⟨n1, 1, none⟩ (.int .i64 (IntKind.i64.wrap (r5.fst + 1)))
                    (.loop (at_ Tryz.f95 [1, 1, 1, 0, 0, 0]) 58 (fx95_15 qa0 n1 n2) [] mx95_15 mr95_15 0 (fun u26 g26 =>
                      .load ⟨n1, 0, none⟩ (.int .i64) (fun x27 =>
                        .load ⟨n1, 1, none⟩ (.int .i64) (fun x28 =>
                          .load ⟨n1, 2, none⟩ (.int .i64) (fun x29 =>
                            .load ⟨n1, 3, none⟩ .sl (fun l30 =>
                              .store ⟨n2, 0, none⟩ (.int .i64 x27)
                                (.store ⟨n2, 1, none⟩ (.int .i64 x28)
                                  (.store ⟨n2, 2, none⟩ (.int .i64 x29)
                                    (.store ⟨n2, 3, none⟩ (.slice l30.1 l30.2.1 l30.2.2)
                                      (.load ⟨n2, 0, none⟩ (.int .i64) (fun x31 =>
                                        .load ⟨n2, 1, none⟩ (.int .i64) (fun x32 =>
                                          .load ⟨n2, 2, none⟩ (.int .i64) (fun x33 =>
                                            .load ⟨n2, 3, none⟩ .sl (fun l34 =>
                                              .done (.returned (.tuple #[.agg #[.int .i64 x31, .int .i64 x32, .int .i64 x33, .slice l34.1 l34.2.1 l34.2.2], .nilIface]))))))))))))))) (fun u35 g35 =>
                      .load ⟨n2, 0, none⟩ (.int .i64) (fun x36 =>
                        .load ⟨n2, 1, none⟩ (.int .i64) (fun x37 =>
                          .load ⟨n2, 2, none⟩ (.int .i64) (fun x38 =>
                            .load ⟨n2, 3, none⟩ .sl (fun l39 =>
                              .done (.returned (.tuple #[.agg #[.int .i64 x36, .int .i64 x37, .int .i64 x38, .slice l39.1 l39.2.1 l39.2.2], u35.1]))))))))))))
            (.store (qa0.add 2) (.int .i64 x3)
              (.loop (at_ Tryz.f95 [1, 1, 1, 0, 0, 0]) 58 (fx95_40 qa0 n1 n2) [] mx95_40 mr95_40 0 (fun u51 g51 =>
                .load ⟨n1, 0, none⟩ (.int .i64) (fun x52 =>
                  .load ⟨n1, 1, none⟩ (.int .i64) (fun x53 =>
                    .load ⟨n1, 2, none⟩ (.int .i64) (fun x54 =>
                      .load ⟨n1, 3, none⟩ .sl (fun l55 =>
                        .store ⟨n2, 0, none⟩ (.int .i64 x52)
                          (.store ⟨n2, 1, none⟩ (.int .i64 x53)
                            (.store ⟨n2, 2, none⟩ (.int .i64 x54)
                              (.store ⟨n2, 3, none⟩ (.slice l55.1 l55.2.1 l55.2.2)
                                (.load ⟨n2, 0, none⟩ (.int .i64) (fun x56 =>
                                  .load ⟨n2, 1, none⟩ (.int .i64) (fun x57 =>
                                    .load ⟨n2, 2, none⟩ (.int .i64) (fun x58 =>
                                      .load ⟨n2, 3, none⟩ .sl (fun l59 =>
                                        .done (.returned (.tuple #[.agg #[.int .i64 x56, .int .i64 x57, .int .i64 x58, .slice l59.1 l59.2.1 l59.2.2], .nilIface]))))))))))))))) (fun u60 g60 =>
                .load ⟨n2, 0, none⟩ (.int .i64) (fun x61 =>
                  .load ⟨n2, 1, none⟩ (.int .i64) (fun x62 =>
                    .load ⟨n2, 2, none⟩ (.int .i64) (fun x63 =>
                      .load ⟨n2, 3, none⟩ .sl (fun l64 =>
                        .done (.returned (.tuple #[.agg #[.int .i64 x61, .int .i64 x62, .int .i64 x63, .slice l64.1 l64.2.1 l64.2.2], u60.1]))))))))))))) := by kernel_rfl
/-! the tree of function 96 -/
def s96 : Script := .cl (.tup [.leaf (.int .i64), .leaf .any]) (.nop (.nop (.nop (.nop (.nop (.nop (.nop (.rn (.one (.leaf .bool)) (.sym (.ld (.int .i64) (.ld (.int .i64) (.ld (.int .i64) (.ld .sl (.ld (.int .i64) (.ld (.int .i64) (.ld (.int .i64) (.ld .sl .nil)))))))) (.cl (.tup [.leaf .str, .leaf (.int .i64)]) (.sym (.cl (.tup [.leaf (.int .i64), .leaf .any]) (.nop (.nop (.nop (.nop (.nop (.nop (.nop (.rn (.one (.leaf .bool)) (.sym (.ld (.int .i64) (.ld (.int .i64) (.ld (.int .i64) (.ld .sl (.ld (.int .i64) (.ld (.int .i64) (.ld (.int .i64) (.ld .sl .nil)))))))) (.hd0 (.hq 0 (.ld (.int .i64) (.ld (.int .i64) (.ld (.int .i64) (.ld .sl (.hq 1 (.he 2 (.cl (.one (.leaf .any)) (.he 3 (.hq 4 (.ld (.int .i64) (.ld (.int .i64) (.ld (.int .i64) (.ld .sl .nil))))))))))))))))))))))))) (.sym (.hd0 (.hq 0 (.ld (.int .i64) (.ld (.int .i64) (.ld (.int .i64) (.ld .sl (.hq 1 (.hq 2 (.hq 3 (.he 4 (.cl (.one (.leaf .any)) (.he 5 (.hq 6 (.ld (.int .i64) (.ld (.int .i64) (.ld (.int .i64) (.ld .sl .nil))))))))))))))))) (.hd0 (.hq 0 (.ld (.int .i64) (.ld (.int .i64) (.ld (.int .i64) (.ld .sl (.hq 1 (.he 2 (.cl (.one (.leaf .any)) (.he 3 (.hq 4 (.ld (.int .i64) (.ld (.int .i64) (.ld (.int .i64) (.ld .sl .nil)))))))))))))))))))))))))))
theorem t96 (qa0 : Addr) (qx1_0 : Int) (qx1_1 : Int) (qx1_2 : Int) (qa1_3 : Option Addr) (qn1_3 : Nat) (qc1_3 : Nat) : fnT Tryz.prog Tryz.f96 #[.pointer (some qa0), .agg #[.int .i64 qx1_0, .int .i64 qx1_1, .int .i64 qx1_2, .slice qa1_3 qn1_3 qc1_3]] s96 =
  .new (.cells #[.int .i64 qx1_0, .int .i64 qx1_1, .int .i64 qx1_2, .slice qa1_3 qn1_3 qc1_3] 38 (0, 0)) (fun n1 =>
    .new (.cells #[.int .i64 0, .int .i64 0, .int .i64 0, .slice none 0 0] 38 (0, 0)) (fun n2 =>
      .call 97 #[.pointer (some qa0), .bool true] (.tup [.leaf (.int .i64), .leaf .any]) (fun r3 =>
        .store ⟨n1, 1, none⟩ (.int .i64 r3.1)
          (.run (vNext (guarded .neq 24 (.tmp 15) (.const .nilIface) r3.snd.1 .nilIface)) (.one (.leaf .bool)) (fun b4 =>
            .br b4
              (.load ⟨n1, 0, none⟩ (.int .i64) (fun x5 =>
                .load ⟨n1, 1, none⟩ (.int .i64) (fun x6 =>
                  .load ⟨n1, 2, none⟩ (.int .i64) (fun x7 =>
                    .load ⟨n1, 3, none⟩ .sl (fun l8 =>
                      .store ⟨n2, 0, none⟩ (.int .i64 x5)
                        (.store ⟨n2, 1, none⟩ (.int .i64 x6)
                          (.store ⟨n2, 2, none⟩ (.int .i64 x7)
                            (.store ⟨n2, 3, none⟩ (.slice l8.1 l8.2.1 l8.2.2)
                              (.load ⟨n2, 0, none⟩ (.int .i64) (fun x9 =>
                                .load ⟨n2, 1, none⟩ (.int .i64) (fun x10 =>
                                  .load ⟨n2, 2, none⟩ (.int .i64) (fun x11 =>
                                    .load ⟨n2, 3, none⟩ .sl (fun l12 =>
                                      .done (.returned (.tuple #[.agg #[.int .i64 x9, .int .i64 x10, .int .i64 x11, .slice l12.1 l12.2.1 l12.2.2], r3.snd.1])))))))))))))))
              (.call 56 #[.pointer (some qa0)] (.tup [.leaf .str, .leaf (.int .i64)]) (fun r13 =>
                .br (r13.fst.toList == (bytesL [97, 102, 116, 101, 114]).toList)
                  (.call 97 #[.pointer (some qa0), .bool true] (.tup [.leaf (.int .i64), .leaf .any]) (fun r14 =>
                    .store ⟨n1, 2, none⟩ (.int .i64 r14.1)
                      (.run (vNext (guarded .neq 24 (.tmp 32) (.const .nilIface) r14.snd.1 .nilIface)) (.one (.leaf .bool)) (fun b15 =>
                        .br b15
                          (.load ⟨n1, 0, none⟩ (.int .i64) (fun x16 =>
                            .load ⟨n1, 1, none⟩ (.int .i64) (fun x17 =>
                              .load ⟨n1, 2, none⟩ (.int .i64) (fun x18 =>
                                .load ⟨n1, 3, none⟩ .sl (fun l19 =>
                                  .store ⟨n2, 0, none⟩ (.int .i64 x16)
                                    (.store ⟨n2, 1, none⟩ (.int .i64 x17)
                                      (.store ⟨n2, 2, none⟩ (.int .i64 x18)
                                        (.store ⟨n2, 3, none⟩ (.slice l19.1 l19.2.1 l19.2.2)
                                          (.load ⟨n2, 0, none⟩ (.int .i64) (fun x20 =>
                                            .load ⟨n2, 1, none⟩ (.int .i64) (fun x21 =>
                                              .load ⟨n2, 2, none⟩ (.int .i64) (fun x22 =>
                                                .load ⟨n2, 3, none⟩ .sl (fun l23 =>
                                                  .done (.returned (.tuple #[.agg #[.int .i64 x20, .int .i64 x21, .int .i64 x22, .slice l23.1 l23.2.1 l23.2.2], r14.snd.1])))))))))))))))
                          (.hdrawn
                            (.load ⟨n1, 0, none⟩ (.int .i64) (fun x24 =>
                              .load ⟨n1, 1, none⟩ (.int .i64) (fun x25 =>
                                .load ⟨n1, 2, none⟩ (.int .i64) (fun x26 =>
                                  .load ⟨n1, 3, none⟩ .sl (fun l27 =>
                                    .eff
                                      (.call 58 #[.pointer (some qa0)] (.one (.leaf .any)) (fun v28 =>
                                        .back
                                          (.eff
                                            (.store ⟨n2, 0, none⟩ (.int .i64 x24)
                                              (.store ⟨n2, 1, none⟩ (.int .i64 x25)
                                                (.store ⟨n2, 2, none⟩ (.int .i64 x26)
                                                  (.store ⟨n2, 3, none⟩ (.slice l27.1 l27.2.1 l27.2.2)
                                                    (.back
                                                      (.undrawn
                                                        (.load ⟨n2, 0, none⟩ (.int .i64) (fun x29 =>
                                                          .load ⟨n2, 1, none⟩ (.int .i64) (fun x30 =>
                                                            .load ⟨n2, 2, none⟩ (.int .i64) (fun x31 =>
                                                              .load ⟨n2, 3, none⟩ .sl (fun l32 =>
                                                                .done (.returned (.tuple #[.agg #[.int .i64 x29, .int .i64 x30, .int .i64 x31, .slice l32.1 l32.2.1 l32.2.2], v28]))))))))))))))))))))))))))
                  (.br (!r13.fst.toList == (bytesL []).toList)
                    (.hdrawn
                      (.load ⟨n1, 0, none⟩ (.int .i64) (fun x33 =>
                        .load ⟨n1, 1, none⟩ (.int .i64) (fun x34 =>
                          .load ⟨n1, 2, none⟩ (.int .i64) (fun x35 =>
                            .load ⟨n1, 3, none⟩ .sl (fun l36 =>
                              .eff
                                (.call 22 #[.pointer (some qa0), .int .i64 r13.2.1, .iface 69 (.int .i64 61)] (.one (.leaf .any)) (fun v37 =>
                                  .back
                                    (.eff
                                      (.store ⟨n2, 0, none⟩ (.int .i64 x33)
                                        (.store ⟨n2, 1, none⟩ (.int .i64 x34)
                                          (.store ⟨n2, 2, none⟩ (.int .i64 x35)
                                            (.store ⟨n2, 3, none⟩ (.slice l36.1 l36.2.1 l36.2.2)
                                              (.back
                                                (.undrawn
                                                  (.load ⟨n2, 0, none⟩ (.int .i64) (fun x38 =>
                                                    .load ⟨n2, 1, none⟩ (.int .i64) (fun x39 =>
                                                      .load ⟨n2, 2, none⟩ (.int .i64) (fun x40 =>
                                                        .load ⟨n2, 3, none⟩ .sl (fun l41 =>
                                                          .done (.returned (.tuple #[.agg #[.int .i64 x38, .int .i64 x39, .int .i64 x40, .slice l41.1 l41.2.1 l41.2.2], v37]))))))))))))))))))))))
                    (.hdrawn
                      (.load ⟨n1, 0, none⟩ (.int .i64) (fun x42 =>
                        .load ⟨n1, 1, none⟩ (.int .i64) (fun x43 =>
                          .load ⟨n1, 2, none⟩ (.int .i64) (fun x44 =>
                            .load ⟨n1, 3, none⟩ .sl (fun l45 =>
                              .eff
                                (.call 58 #[.pointer (some qa0)] (.one (.leaf .any)) (fun v46 =>
                                  .back
                                    (.eff
                                      (.store ⟨n2, 0, none⟩ (.int .i64 x42)
                                        (.store ⟨n2, 1, none⟩ (.int .i64 x43)
                                          (.store ⟨n2, 2, none⟩ (.int .i64 x44)
                                            (.store ⟨n2, 3, none⟩ (.slice l45.1 l45.2.1 l45.2.2)
                                              (.back
                                                (.undrawn
                                                  (.load ⟨n2, 0, none⟩ (.int .i64) (fun x47 =>
                                                    .load ⟨n2, 1, none⟩ (.int .i64) (fun x48 =>
                                                      .load ⟨n2, 2, none⟩ (.int .i64) (fun x49 =>
                                                        .load ⟨n2, 3, none⟩ .sl (fun l50 =>
                                                          .done (.returned (.tuple #[.agg #[.int .i64 x47, .int .i64 x48, .int .i64 x49, .slice l50.1 l50.2.1 l50.2.2], v46])))))))))))))))))))))))))))))) := by kernel_rfl
/-! the tree of function 60 -/
abbrev fx60_22 (qa0 : Addr) (qx1 : Int) (n1 : Nat) (n2 : Nat) (n21 : Nat) : List (Tmp × Value) := [(0, .pointer (some qa0)), (1, .int .i64 qx1), (4, .pointer (some ⟨n1, 0, none⟩)), (6, .pointer (some ⟨n2, 0, none⟩)), (30, .slice (some ⟨n21, 0, none⟩) 2 2), (31, .int .i64 2)]
abbrev m60_22 : List (Tmp × Comp) := [(32, .leaf (.int .i64))]
abbrev mx60_22 : List (Tmp × Comp) := []
abbrev mr60_22 : List (Tmp × Comp) := [(5, .leaf .any)]
def s60_22 : Script := .sym (.ix (.ld .ptr (.ix (.ld (.int .i64) (.sym .nil (.cl (.tup [.leaf (.int .i64), .leaf .any]) (.nop (.nop (.nop (.nop (.nop (.nop (.rn (.one (.leaf .bool)) (.sym (.ld (.int .i64) (.ld (.int .i64) (.ld (.int .i64) (.ld .sl .nil)))) (.pt .nil))))))))))))))) .nil
theorem t60_22 (qa0 : Addr) (qx1 : Int) (n1 : Nat) (n2 : Nat) (n21 : Nat) (x_32 : Int) (g : Nat → Value) : pieceT Tryz.prog (at_ Tryz.f60 [1, 1, 1, 0, 1, 0, 0]) 59 (fx60_22 qa0 qx1 n1 n2 n21 ++ mvals m60_22 (x_32, ())) g (m60_22.map (·.1)) (mx60_22.map (·.1)) (mr60_22.map (·.1)) s60_22 =
  .br (Decidable.decide (x_32 < 2))
    (.idx (some ⟨n21, 0, none⟩) x_32 2 1 (fun a23 =>
      .load a23 .ptr (fun p24 =>
        .idx (some ⟨0, 0, none⟩) qx1 10 2 (fun a25 =>
          .load (a25.add 1) (.int .i64) (fun x26 =>
            .br (Decidable.decide (x_32 ≥ x26))
              (.fin (.exit 1) [])
              (.call 97 #[.pointer (some qa0), .bool true] (.tup [.leaf (.int .i64), .leaf .any]) (fun r27 =>
                .run (vNext (guarded .neq 24 (.tmp 48) (.const .nilIface) r27.snd.1 .nilIface)) (.one (.leaf .bool)) (fun b28 =>
                  .br b28
                    (.load ⟨n2, 0, none⟩ (.int .i64) (fun x29 =>
                      .load ⟨n2, 1, none⟩ (.int .i64) (fun x30 =>
                        .load ⟨n2, 2, none⟩ (.int .i64) (fun x31 =>
                          .load ⟨n2, 3, none⟩ .sl (fun l32 =>
                            .store ⟨n1, 0, none⟩ (.int .i64 x29)
                              (.store ⟨n1, 1, none⟩ (.int .i64 x30)
                                (.store ⟨n1, 2, none⟩ (.int .i64 x31)
                                  (.store ⟨n1, 3, none⟩ (.slice l32.1 l32.2.1 l32.2.2)
                                    (.fin .ret [(5, r27.snd.1)])))))))))
                    (.ptr p24 (fun a33 =>
                      .store a33 (.int .i64 r27.1)
                        (.fin .normal [(32, .int .i64 (IntKind.i64.wrap (x_32 + 1)))]))
                      (.stuck))))))))))
    (.fin (.exit 1) []) := by kernel_rfl
def s60 : Script := .sym (.ld (.int .i64) (.ld (.int .i64) (.ld (.int .i64) (.ld .sl (.cl (.tup [.agg [.int .i64, .int .i64, .int .i64, .sl], .leaf .any]) (.ld (.int .i64) (.ld (.int .i64) (.ld (.int .i64) (.ld .sl .nil))))))))) (.sym (.ld (.int .i64) (.ld (.int .i64) (.ld (.int .i64) (.ld .sl (.cl (.tup [.agg [.int .i64, .int .i64, .int .i64, .sl], .leaf .any]) (.ld (.int .i64) (.ld (.int .i64) (.ld (.int .i64) (.ld .sl .nil))))))))) (.lp 1 [0, 1, 4, 6, 30, 31] [32] mx60_22 mr60_22 (.hd0 (.hq 0 (.ld (.int .i64) (.ld (.int .i64) (.ld (.int .i64) (.ld .sl (.hq 1 (.he 2 (.cl (.one (.leaf .any)) (.he 3 (.hq 4 (.ld (.int .i64) (.ld (.int .i64) (.ld (.int .i64) (.ld .sl .nil))))))))))))))) (.ld (.int .i64) (.ld (.int .i64) (.ld (.int .i64) (.ld .sl .nil))))))
theorem t60 (qa0 : Addr) (qx1 : Int) : fnT Tryz.prog Tryz.f60 #[.pointer (some qa0), .int .i64 qx1] s60 =
  .new (.cells #[.int .i64 0, .int .i64 0, .int .i64 0, .slice none 0 0] 38 (0, 0)) (fun n1 =>
    .new (.cells #[.int .i64 0, .int .i64 0, .int .i64 0, .slice none 0 0] 38 (0, 0)) (fun n2 =>
      .store ⟨n2, 0, none⟩ (.int .i64 qx1)
        (.store ⟨n2, 1, none⟩ (.int .i64 0)
          (.store ⟨n2, 2, none⟩ (.int .i64 0)
            (.store ⟨n2, 3, none⟩ (.slice none 0 0)
              (.br (qx1 == 9)
                (.load ⟨n2, 0, none⟩ (.int .i64) (fun x3 =>
                  .load ⟨n2, 1, none⟩ (.int .i64) (fun x4 =>
                    .load ⟨n2, 2, none⟩ (.int .i64) (fun x5 =>
                      .load ⟨n2, 3, none⟩ .sl (fun l6 =>
                        .call 95 #[.pointer (some qa0), .agg #[.int .i64 x3, .int .i64 x4, .int .i64 x5, .slice l6.1 l6.2.1 l6.2.2]] (.tup [.agg [.int .i64, .int .i64, .int .i64, .sl], .leaf .any]) (fun r7 =>
                          .store ⟨n1, 0, none⟩ (.int .i64 r7.1.1)
                            (.store ⟨n1, 1, none⟩ (.int .i64 r7.1.2.1)
                              (.store ⟨n1, 2, none⟩ (.int .i64 r7.1.2.2.1)
                                (.store ⟨n1, 3, none⟩ (.slice r7.1.2.2.2.1.1 r7.1.2.2.2.1.2.1 r7.1.2.2.2.1.2.2)
                                  (.load ⟨n1, 0, none⟩ (.int .i64) (fun x8 =>
                                    .load ⟨n1, 1, none⟩ (.int .i64) (fun x9 =>
                                      .load ⟨n1, 2, none⟩ (.int .i64) (fun x10 =>
                                        .load ⟨n1, 3, none⟩ .sl (fun l11 =>
                                          .done (.returned (.tuple #[.agg #[.int .i64 x8, .int .i64 x9, .int .i64 x10, .slice l11.1 l11.2.1 l11.2.2], r7.snd.1]))))))))))))))))
                (.br (qx1 == 7)
                  (.load ⟨n2, 0, none⟩ (.int .i64) (fun x12 =>
                    .load ⟨n2, 1, none⟩ (.int .i64) (fun x13 =>
                      .load ⟨n2, 2, none⟩ (.int .i64) (fun x14 =>
                        .load ⟨n2, 3, none⟩ .sl (fun l15 =>
                          .call 96 #[.pointer (some qa0), .agg #[.int .i64 x12, .int .i64 x13, .int .i64 x14, .slice l15.1 l15.2.1 l15.2.2]] (.tup [.agg [.int .i64, .int .i64, .int .i64, .sl], .leaf .any]) (fun r16 =>
                            .store ⟨n1, 0, none⟩ (.int .i64 r16.1.1)
                              (.store ⟨n1, 1, none⟩ (.int .i64 r16.1.2.1)
                                (.store ⟨n1, 2, none⟩ (.int .i64 r16.1.2.2.1)
                                  (.store ⟨n1, 3, none⟩ (.slice r16.1.2.2.2.1.1 r16.1.2.2.2.1.2.1 r16.1.2.2.2.1.2.2)
                                    (.load ⟨n1, 0, none⟩ (.int .i64) (fun x17 =>
                                      .load ⟨n1, 1, none⟩ (.int .i64) (fun x18 =>
                                        .load ⟨n1, 2, none⟩ (.int .i64) (fun x19 =>
                                          .load ⟨n1, 3, none⟩ .sl (fun l20 =>
                                            .done (.returned (.tuple #[.agg #[.int .i64 x17, .int .i64 x18, .int .i64 x19, .slice l20.1 l20.2.1 l20.2.2], r16.snd.1]))))))))))))))))
                  (.new (.cells #[.pointer (some ⟨n2, 1, none⟩), .pointer (some ⟨n2, 2, none⟩)] 161 (0, 0)) (fun n21 =>
                    .loop (at_ Tryz.f60 [1, 1, 1, 0, 1, 0, 0]) 59 (fx60_22 qa0 qx1 n1 n2 n21) [(32, .int .i64 0)] mx60_22 mr60_22 1 (fun u34 g34 =>
                      .hdrawn
                        (.load ⟨n2, 0, none⟩ (.int .i64) (fun x35 =>
                          .load ⟨n2, 1, none⟩ (.int .i64) (fun x36 =>
                            .load ⟨n2, 2, none⟩ (.int .i64) (fun x37 =>
                              .load ⟨n2, 3, none⟩ .sl (fun l38 =>
                                .eff
                                  (.call 58 #[.pointer (some qa0)] (.one (.leaf .any)) (fun v39 =>
                                    .back
                                      (.eff
                                        (.store ⟨n1, 0, none⟩ (.int .i64 x35)
                                          (.store ⟨n1, 1, none⟩ (.int .i64 x36)
                                            (.store ⟨n1, 2, none⟩ (.int .i64 x37)
                                              (.store ⟨n1, 3, none⟩ (.slice l38.1 l38.2.1 l38.2.2)
                                                (.back
                                                  (.undrawn
                                                    (.load ⟨n1, 0, none⟩ (.int .i64) (fun x40 =>
                                                      .load ⟨n1, 1, none⟩ (.int .i64) (fun x41 =>
                                                        .load ⟨n1, 2, none⟩ (.int .i64) (fun x42 =>
                                                          .load ⟨n1, 3, none⟩ .sl (fun l43 =>
                                                            .done (.returned (.tuple #[.agg #[.int .i64 x40, .int .i64 x41, .int .i64 x42, .slice l43.1 l43.2.1 l43.2.2], v39])))))))))))))))))))))) (fun u44 g44 =>
                      .load ⟨n1, 0, none⟩ (.int .i64) (fun x45 =>
                        .load ⟨n1, 1, none⟩ (.int .i64) (fun x46 =>
                          .load ⟨n1, 2, none⟩ (.int .i64) (fun x47 =>
                            .load ⟨n1, 3, none⟩ .sl (fun l48 =>
                              .done (.returned (.tuple #[.agg #[.int .i64 x45, .int .i64 x46, .int .i64 x47, .slice l48.1 l48.2.1 l48.2.2], u44.1])))))))))))))))) := by kernel_rfl

abbrev tOp : TypeId := 38
abbrev tInt : TypeId := 3
abbrev tInts : TypeId := 36
def opVal (k a b : Int) (p : Option Addr) (n c : Nat) : Value := .agg #[.int .i64 k, .int .i64 a, .int .i64 b, .slice p n c]
def opCells (k a b : Int) (p : Option Addr) (n c : Nat) : List Value := [.int .i64 k, .int .i64 a, .int .i64 b, .slice p n c]
def intCells (l : List Int) : List Value := l.map fun x => .int .i64 x
theorem intCells_one (l : List Int) : ∀ u ∈ intCells l, u.oneCell' = true := fun u hu => by
  simp only [intCells, List.mem_map] at hu
  obtain ⟨b, _, rfl⟩ := hu
  rfl
theorem infoInt : (Tryz.prog.info? tInt).map (fun i => (i.zero, i.size, i.bytes)) = some (some (.int .i64 0), 1, 8) := by kernel_rfl
section
variable {R : Ending → World → Prop} {Q : Exit → List (Tmp × Value) → World → Prop} {w : World}
section
variable {md : Md} [hmd : md.Runs]
theorem st4 {n2 : Nat} {t2 : TypeId} {y0 y1 y2 y3 x0 x1 x2 x3 : Value} {K : T} (b2 : Blk w n2 [y0, y1, y2, y3] t2) (o0 : x0.oneCell' = true) (o1 : x1.oneCell' = true) (o2 : x2.oneCell' = true) (o3 : x3.oneCell' = true)
    (h : ∀ w', Ch (· = n2) w w' → Blk w' n2 [x0, x1, x2, x3] t2 → wpT Tryz.prog R Q K md w') :
    wpT Tryz.prog R Q (.store ⟨n2, 0, none⟩ x0 (.store ⟨n2, 1, none⟩ x1 (.store ⟨n2, 2, none⟩ x2 (.store ⟨n2, 3, none⟩ x3 K)))) md w :=
  st_blk b2 (by simp) o0 fun w1 h1 z1 b1 => st_blk b1 (by simp) o1 fun w2 h2 z2 b2 => st_blk b2 (by simp) o2 fun w3 h3 z3 b3 => st_blk b3 (by simp) o3 fun w4 h4 z4 b4 => h w4 (h1.trans (h2.trans (h3.trans h4))) b4
theorem cp4 {n1 n2 : Nat} {t1 t2 : TypeId} {k a b : Int} {p : Option Addr} {n c : Nat} {y0 y1 y2 y3 : Value} {K : T} (b1 : Blk w n1 (opCells k a b p n c) t1) (b2 : Blk w n2 [y0, y1, y2, y3] t2)
    (h : ∀ w', Ch (· = n2) w w' → Blk w' n2 (opCells k a b p n c) t2 → wpT Tryz.prog R Q K md w') :
    wpT Tryz.prog R Q (.load ⟨n1, 0, none⟩ (.int .i64) fun x => .load ⟨n1, 1, none⟩ (.int .i64) fun y => .load ⟨n1, 2, none⟩ (.int .i64) fun z => .load ⟨n1, 3, none⟩ .sl fun l =>
      .store ⟨n2, 0, none⟩ (.int .i64 x) (.store ⟨n2, 1, none⟩ (.int .i64 y) (.store ⟨n2, 2, none⟩ (.int .i64 z) (.store ⟨n2, 3, none⟩ (.slice l.1 l.2.1 l.2.2) K)))) md w :=
  ld_int (b1.cell 0) (ld_int (b1.cell 1) (ld_int (b1.cell 2) (ld_sl (b1.cell 3) (st4 b2 rfl rfl rfl rfl h))))
end
theorem ret4 {n2 : Nat} {t2 : TypeId} {k a b : Int} {p : Option Addr} {n c : Nat} {v : Value} (b2 : Blk w n2 (opCells k a b p n c) t2) (h : R (.returned (.tuple #[opVal k a b p n c, v])) w) :
    wpT Tryz.prog R Q (.load ⟨n2, 0, none⟩ (.int .i64) fun x => .load ⟨n2, 1, none⟩ (.int .i64) fun y => .load ⟨n2, 2, none⟩ (.int .i64) fun z => .load ⟨n2, 3, none⟩ .sl fun l =>
      .done (.returned (.tuple #[.agg #[.int .i64 x, .int .i64 y, .int .i64 z, .slice l.1 l.2.1 l.2.2], v]))) .pl w :=
  ld_int (b2.cell 0) (ld_int (b2.cell 1) (ld_int (b2.cell 2) (ld_sl (b2.cell 3) h)))
theorem hcp4 {n1 n2 : Nat} {t1 t2 : TypeId} {k a b : Int} {p : Option Addr} {n c : Nat} {f : FuncId} {args : Array Value} {Post : Ending → World → Prop} (b1 : Blk w n1 (opCells k a b p n c) t1) (hne : n1 ≠ n2)
    (hc : Calls Tryz.prog f args w.drew Post)
    (h : ∀ e w1, Post e w1 → ∃ v y0 y1 y2 y3, e = .returned v ∧ Blk w1 n1 (opCells k a b p n c) t1 ∧ Blk w1 n2 [y0, y1, y2, y3] t2 ∧ ∀ w2, Ch (· = n2) w1 w2 → Blk w2 n2 (opCells k a b p n c) t2 → R (.returned (.tuple #[opVal k a b p n c, v])) w2) :
    wpT Tryz.prog R Q (.hdrawn (.load ⟨n1, 0, none⟩ (.int .i64) fun x => .load ⟨n1, 1, none⟩ (.int .i64) fun y => .load ⟨n1, 2, none⟩ (.int .i64) fun z => .load ⟨n1, 3, none⟩ .sl fun l =>
      .eff (.call f args (.one (.leaf .any)) fun v => .back (.eff (.store ⟨n2, 0, none⟩ (.int .i64 x) (.store ⟨n2, 1, none⟩ (.int .i64 y) (.store ⟨n2, 2, none⟩ (.int .i64 z) (.store ⟨n2, 3, none⟩ (.slice l.1 l.2.1 l.2.2)
        (.back (.undrawn (.load ⟨n2, 0, none⟩ (.int .i64) fun x => .load ⟨n2, 1, none⟩ (.int .i64) fun y => .load ⟨n2, 2, none⟩ (.int .i64) fun z => .load ⟨n2, 3, none⟩ .sl fun l =>
          .done (.returned (.tuple #[.agg #[.int .i64 x, .int .i64 y, .int .i64 z, .slice l.1 l.2.1 l.2.2], v]))))))))))))) .pl w := by
  refine hd_i (fun w' => Blk w' n1 (opCells k a b p n c) t1) b1 ?_
  refine lh_int (x := k) (fun w' h => h.cell 0) (lh_int (x := a) (fun w' h => h.cell 1) (lh_int (x := b) (fun w' h => h.cell 2) (lh_sl (p := p) (n := n) (c := c) (fun w' h => h.cell 3) (eff_i (cl_i hc ?_)))))
  intro e w1 hp
  obtain ⟨v, y0, y1, y2, y3, rfl, c1, c2, hr⟩ := h e w1 hp
  refine ⟨v, rfl, bk c1 (eff_i (st4 c2 rfl rfl rfl rfl fun w2 h2 d2 => bk (c1.ch h2 hne) (un_h (ret4 d2 (hr w2 h2 d2)))))⟩
end

theorem keep_fuel (L : Nat) : ∀ (f g : Nat) (r : List UInt8) (acc : List Int), r.length < f → r.length < g → keepM L f r acc = keepM L g r acc
  | 0, _, r, _, h, _ => by omega
  | _, 0, r, _, _, h => by omega
  | f + 1, g + 1, r, acc, h1, h2 => by
    unfold keepM
    by_cases hs : skipS r = []
    · rw [if_pos hs, if_pos hs]
    · rw [if_neg hs, if_neg hs]
      cases hn : numberM L true r with
      | error e => rfl
      | ok v =>
        obtain ⟨n, r'⟩ := v
        have hr : r' = afterS r := by
          unfold numberM at hn
          split at hn <;> cases hn
          rfl
        have hl : r'.length < r.length := by
          rw [hr]
          have h1 := (List.dropWhile_suffix (l := r) (· == (32 : UInt8))).length_le
          have h2 : (skipS r).length ≤ r.length := h1
          cases hsk : skipS r with
          | nil => exact absurd hsk hs
          | cons c t =>
            have hc : c ≠ 32 := by
              have := List.head?_dropWhile_not (p := (· == (32 : UInt8))) (l := r)
              rw [show r.dropWhile (· == 32) = c :: t from hsk] at this
              simpa using this
            unfold afterS
            rw [hsk, List.dropWhile_cons, if_pos (by simpa using hc)]
            have := (List.dropWhile_suffix (l := t) (· != (32 : UInt8))).length_le
            rw [hsk, List.length_cons] at h2
            omega
        dsimp only
        exact keep_fuel L f g r' _ (by omega) (by omega)
theorem after_lt {r : List UInt8} (hs : skipS r ≠ []) : (afterS r).length < r.length := by
  have h2 : (skipS r).length ≤ r.length := (List.dropWhile_suffix (l := r) (· == (32 : UInt8))).length_le
  cases hsk : skipS r with
  | nil => exact absurd hsk hs
  | cons c t =>
    have hc : c ≠ 32 := by
      have := List.head?_dropWhile_not (p := (· == (32 : UInt8))) (l := r)
      rw [show r.dropWhile (· == 32) = c :: t from hsk] at this
      simpa using this
    unfold afterS
    rw [hsk, List.dropWhile_cons, if_pos (by simpa using hc)]
    have := (List.dropWhile_suffix (l := t) (· != (32 : UInt8))).length_le
    rw [hsk, List.length_cons] at h2
    omega
/-- What is left to keep. -/
def keepR (L : Nat) (r : List UInt8) (acc : List Int) : PRes (List Int) := keepM L (r.length + 1) r acc
theorem keepR_end {L : Nat} {r : List UInt8} {acc : List Int} (h : skipS r = []) : keepR L r acc = .ok acc := by unfold keepR keepM; rw [if_pos h]
theorem keepR_err {L : Nat} {r : List UInt8} {acc : List Int} {e : Nat × Int} (h : skipS r ≠ []) (hn : numberM L true r = .error e) : keepR L r acc = .error e := by unfold keepR keepM; rw [if_neg h, hn]
theorem keepR_step {L : Nat} {r r' : List UInt8} {acc : List Int} {n : Int} (h : skipS r ≠ []) (hn : numberM L true r = .ok (n, r')) : keepR L r acc = keepR L r' (acc ++ [n]) ∧ r' = afterS r := by
  have hr : r' = afterS r := by
    unfold numberM at hn
    split at hn <;> cases hn
    rfl
  refine ⟨?_, hr⟩
  have := after_lt h
  unfold keepR
  rw [keepM, if_neg h, hn]
  dsimp only
  exact keep_fuel L _ _ r' _ (by rw [hr]; omega) (by omega)
def curMu (s : ByteArray) (b : Nat) (w : World) : Nat := match w.cell? ⟨b, 2, none⟩ with
  | some (.int _ x) => s.size - x.toNat
  | _ => 0
theorem Cur.mu {w : World} {b : Nat} {s : ByteArray} {no : Int} {r : List UInt8} (h : Cur w b s no r) : curMu s b w = r.length := by
  unfold curMu
  rw [show w.cell? ⟨b, 2, none⟩ = some (.int .i64 ((s.size - r.length : Nat) : Int)) from h.blk.cell 2]
  have := suf_len h.suf
  dsimp only
  omega
def Three (b n1 n2 i : Nat) : Prop := i = b ∨ i = n1 ∨ i = n2

/-- survivors' loop. -/
theorem surv_loop {R : Ending → World → Prop} {Q : Exit → List (Tmp × Value) → World → Prop} {w : World} {kx : MVars mx95_15 → (Nat → Value) → T} {kr : MVars mr95_15 → (Nat → Value) → T}
    (b n1 n2 : Nat) (s : ByteArray) (no : Int) (r : List UInt8) (k a bb : Int) (hc : Cur w b s no r) (hs : s.size ≤ 10000) (b1 : Blk w n1 (opCells k a bb none 0 0) tOp) (b2 : Blk w n2 (opCells 0 0 0 none 0 0) tOp) (hbn1 : n1 ≠ b) (hbn2 : n2 ≠ b) (h12 : n1 ≠ n2)
    (hok : ∀ l p n c w' g', keepR s.size r [] = .ok l → Ch (Three b n1 n2) w w' → (∃ r', Cur w' b s no r') → Blk w' n1 (opCells k a bb p n c) tOp → Blk w' n2 (opCells 0 0 0 none 0 0) tOp → Row w' w.heap.size tInt 1 p n c (intCells l) → wpT Tryz.prog R Q (kx () g') .pl w')
    (herr : ∀ pl cd v p n c w' g', keepR s.size r [] = .error (pl, cd) → Ch (Three b n1 n2) w w' → (∃ r', Cur w' b s no r') → Blk w' n2 (opCells k a bb p n c) tOp → ErrAt w' v no pl cd → wpT Tryz.prog R Q (kr (v, ()) g') .pl w') :
    wpT Tryz.prog R Q (.loop (at_ Tryz.f95 [1, 1, 1, 0, 0, 0]) 58 (fx95_15 ⟨b, 0, none⟩ n1 n2) [] mx95_15 mr95_15 0 kx kr) .pl w := by
  refine loop_i mixed m95_15 s95_15 (by kernel_rfl) (by kernel_rfl)
    (fun _ w' => ∃ r' acc p n c, Ch (Three b n1 n2) w w' ∧ Cur w' b s no r' ∧ Blk w' n1 (opCells k a bb p n c) tOp ∧ Blk w' n2 (opCells 0 0 0 none 0 0) tOp ∧ Row w' w.heap.size tInt 1 p n c (intCells acc) ∧ keepR s.size r' acc = keepR s.size r [] ∧ acc.length + r'.length ≤ s.size) (fun _ w' => curMu s b w') () rfl ⟨r, [], none, 0, 0, Ch.refl _ _, hc, b1, b2, Row.nil _ _ _ _, rfl, by have := suf_len hc.suf; simpa using this⟩ ?_
  rintro ⟨⟩ g w1 ⟨r1, acc, p, n, c, h1, c1, d1, d2, row, hk, hl⟩
  rw [t95_15]
  refine cl_i (more_any b s no r1 w1 c1 (by omega)) ?_
  rintro e w2 ⟨rfl, h2⟩
  refine ⟨_, rfl, ?_⟩
  have H2 := h1.trans h2.no
  have c2 := c1.ch h2 (fun h => h)
  replace d1 := d1.ch h2 (fun h => h)
  replace d2 := d2.ch h2 (fun h => h)
  replace row := row.no h2
  refine br_both (fun e => ?_) fun e => ?_
  · have hsk : skipS r1 ≠ [] := fun h => by rw [h] at e; cases e
    refine cl_i (cnum_any b s no r1 true w2 c2 (by omega)) ?_
    rintro e w3 ⟨h3, c3, hm⟩
    have H3 : Ch (Three b n1 n2) w w3 := H2.trans (h3.mono fun i h => .inl h)
    have e1 := d1.ch h3 (fun e => hbn1 e)
    have e2 := d2.ch h3 (fun e => hbn2 e)
    have row3 := row.ch h3 (fun k hk e => by subst e; exact row.ne c2.blk (by decide) hk)
    have hlt := after_lt hsk
    cases hn : numberM s.size true r1 with
    | error er =>
      obtain ⟨pl, cd⟩ := er
      rw [hn] at hm
      obtain ⟨v, rfl, hv⟩ := hm
      refine ⟨((0 : Int), v, ()), rfl, ne_err hv (br_true rfl ?_)⟩
      refine cp4 e1 e2 fun w4 h4 d4 => ?_
      refine ⟨(v, ()), rfl, fun g => ?_⟩
      refine herr pl cd v p n c w4 g (by rw [← hk]; exact keepR_err hsk hn) (H3.trans (h4.mono fun i h => .inr (.inr h))) ⟨_, c3.ch h4 (fun e => hbn2 e.symm)⟩ d4 (hv.ch h4 (fun b' vs hb e => ?_))
      subst e
      have := d4.lt
      unfold Blk at hb e2
      rw [hb] at e2
      simp [tFault, tOp] at e2
    | ok x =>
      obtain ⟨m, r'⟩ := x
      rw [hn] at hm
      subst hm
      obtain ⟨k1, k2⟩ := keepR_step (acc := acc) hsk hn
      refine ⟨(m, .nilIface, ()), rfl, ne_nil (br_false rfl ?_)⟩
      refine ld_sl (e1.cell 3) (nw fun w4 h4 z4 b4 => ?_)
      have hlen := row.len
      simp only [intCells, List.length_map, Nat.mul_one] at hlen
      refine ap_blk (by kernel_rfl) infoInt rfl (by omega) (row3.no h4) (by have := H3.size; omega) b4 (by simp) (fun u hu => by simp at hu; subst hu; rfl) (by unfold maxLen; omega) (by omega) fun q' d' w5 g5 => ?_
      have f1 := (e1.ch h4 (fun h => h))
      have f1' := g5.blk (row3.no h4) f1 (by decide)
      refine st_blk f1' (by simp [opCells]) rfl fun w6 h6 z6 b6 => ⟨(), rfl, ?_⟩
      have hrs : Ch (Three b n1 n2) w w5 := (H3.trans h4.no).then_ g5.ch (fun i hi h => by have := (row3.lt h).1; omega)
      refine ⟨⟨r', acc ++ [m], q', n + 1, d', hrs.trans (h6.mono fun i h => .inr (.inl h)), ?_, b6, ?_, ?_, by rw [← k1]; exact hk, ?_⟩, ?_⟩
      · rw [k2]
        exact ⟨c3.suf, ((g5.blk (row3.no h4) (c3.blk.ch h4 (fun h => h)) (by decide)).ch h6 (fun e => hbn1 e.symm))⟩
      · exact (g5.blk (row3.no h4) (e2.ch h4 (fun h => h)) (by decide)).ch h6 (fun e => h12 e.symm)
      · have := g5.own.ch h6 (fun k hk e => by subst e; exact g5.own.ne f1' (by decide) hk)
        simpa [intCells] using this
      · rw [k2, List.length_append]
        simp only [List.length_cons, List.length_nil]
        omega
      · have c6 : Cur w6 b s no (afterS r1) := ⟨c3.suf, ((g5.blk (row3.no h4) (c3.blk.ch h4 (fun h => h)) (by decide)).ch h6 (fun e => hbn1 e.symm))⟩
        rw [c6.mu, c1.mu]
        exact hlt
  · have hsk : skipS r1 = [] := by
      cases hc : skipS r1 with
      | nil => rfl
      | cons x t => rw [hc] at e; cases e
    refine ⟨rfl, (), rfl, fun g => hok acc p n c w2 g (by rw [← hk]; exact keepR_end hsk) H2 ⟨_, c2⟩ d1 d2 row⟩
end Go.Proofs.YtjlmkahagcojcaaGreatDoor
