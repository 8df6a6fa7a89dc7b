/- The end of a repeat: its steps go to the block around, as often as it says. -/
import Derived.Test.YtjlmkahagcojcaaGreatDoorRde
namespace Go.Proofs.YtjlmkahagcojcaaGreatDoor
open Go Tr
set_option maxRecDepth 100000
/-! the tree of function 21 -/
abbrev fx21_2 (qa0 : Addr) (qa1 : Addr) (r1 : ByteArray × Int × Unit) : List (Tmp × Value) := [(0, .pointer (some qa0)), (1, .pointer (some qa1)), (5, .string r1.1), (6, .int .i64 r1.2.1)]
abbrev mx21_2 : List (Tmp × Comp) := [(7, .leaf .ptr)]
def s21_2 : Script := .qt (.ld .sl (.ld .sl (.ix (.ld .ptr .nil))))
theorem t21_2 (qa0 : Addr) (qa1 : Addr) (r1 : ByteArray × Int × Unit) (g : Nat → Value) : pieceT Tryz.prog (at_ Tryz.f21 [1, 1, 0]) 181 (fx21_2 qa0 qa1 r1) g (mx21_2.map (·.1)) [] [] s21_2 =
  .drawn
    (.load qa0 .sl (fun l3 =>
      .load qa0 .sl (fun l4 =>
        .idx l3.1 (IntKind.i64.wrap ((↑l4.snd.fst : Int) - 1)) l3.2.1 1 (fun a5 =>
          .load a5 .ptr (fun p6 =>
            .undrawn
              (.fin .normal [(7, .pointer p6)])))))) := by kernel_rfl
abbrev fx21_13 (qa0 : Addr) (qa1 : Addr) (r1 : ByteArray × Int × Unit) (u7 : Option Addr × Unit) : List (Tmp × Value) := [(0, .pointer (some qa0)), (1, .pointer (some qa1)), (6, .int .i64 r1.2.1), (7, .pointer u7.1)]
abbrev mx21_13 : List (Tmp × Comp) := []
def s21_13 : Script := .hd0 (.hq 0 (.hq 1 (.hq 2 (.hq 3 (.hq 5 (.hq 6 (.hq 7 (.hl 4 (.ld .sl (.he 8 (.ld .sl (.hq 9 (.hq 10 (.hq 11 (.nd (.hq 12 (.hq 13 (.he 14 .nil)))))))))) (.hl 8 (.ld .sl (.hq 9 (.hq 10 (.he 4 (.ld .sl (.hq 11 (.nd (.hq 12 (.hq 13 (.he 14 .nil)))))))))) .nil)))))))))
theorem t21_13 (qa0 : Addr) (qa1 : Addr) (r1 : ByteArray × Int × Unit) (u7 : Option Addr × Unit) (g : Nat → Value) : pieceT Tryz.prog (at_ Tryz.f21 [1, 1, 1, 0, 1, 0, 1, 1, 1, 0, 1, 1, 0]) 181 (fx21_13 qa0 qa1 r1 u7) g (mx21_13.map (·.1)) [] [] s21_13 =
  .hdrawn
    (.both
      (.eff
        (.load qa0 .sl (fun l14 =>
          .back
            (.eff
              (.load qa0 .sl (fun l15 =>
                .back
                  (.need (Decidable.decide (Int.ofNat 0 ≤ 0 ∧ 0 ≤ IntKind.i64.wrap ((↑l15.snd.fst : Int) - 1) ∧ IntKind.i64.wrap ((↑l15.snd.fst : Int) - 1) ≤ (↑l14.snd.snd : Int)))
                    (.eff
                      (.store qa0 (.slice (if l14.snd.snd = 0 then l14.fst else Option.map (fun q ↦ q.add (0 * 1)) l14.fst) ((IntKind.i64.wrap ((↑l15.snd.fst : Int) - 1)).toNat - 0) (l14.snd.snd - 0))
                        (.back
                          (.undrawn
                            (.fin .normal []))))))))))))
      (.both
        (.eff
          (.load qa0 .sl (fun l16 =>
            .back
              (.eff
                (.load qa0 .sl (fun l17 =>
                  .back
                    (.need (Decidable.decide (Int.ofNat 0 ≤ 0 ∧ 0 ≤ IntKind.i64.wrap ((↑l16.snd.fst : Int) - 1) ∧ IntKind.i64.wrap ((↑l16.snd.fst : Int) - 1) ≤ (↑l17.snd.snd : Int)))
                      (.eff
                        (.store qa0 (.slice (if l17.snd.snd = 0 then l17.fst else Option.map (fun q ↦ q.add (0 * 1)) l17.fst) ((IntKind.i64.wrap ((↑l16.snd.fst : Int) - 1)).toNat - 0) (l17.snd.snd - 0))
                          (.back
                            (.undrawn
                              (.fin .normal []))))))))))))
        (.triv))) := by kernel_rfl
abbrev fx21_19 (qa0 : Addr) (qa1 : Addr) (r1 : ByteArray × Int × Unit) (u7 : Option Addr × Unit) : List (Tmp × Value) := [(0, .pointer (some qa0)), (1, .pointer (some qa1)), (6, .int .i64 r1.2.1), (7, .pointer u7.1)]
abbrev mx21_19 : List (Tmp × Comp) := [(9, .leaf .ptr)]
def s21_19 : Script := .qt (.ld .sl (.ld .sl (.ix (.ld .ptr .nil))))
theorem t21_19 (qa0 : Addr) (qa1 : Addr) (r1 : ByteArray × Int × Unit) (u7 : Option Addr × Unit) (g : Nat → Value) : pieceT Tryz.prog (at_ Tryz.f21 [1, 1, 1, 0, 1, 0, 1, 1, 1, 0, 1, 1, 1, 0]) 181 (fx21_19 qa0 qa1 r1 u7) g (mx21_19.map (·.1)) [] [] s21_19 =
  .drawn
    (.load qa0 .sl (fun l20 =>
      .load qa0 .sl (fun l21 =>
        .idx l20.1 (IntKind.i64.wrap ((↑l21.snd.fst : Int) - 1)) l20.2.1 1 (fun a22 =>
          .load a22 .ptr (fun p23 =>
            .undrawn
              (.fin .normal [(9, .pointer p23)])))))) := by kernel_rfl
abbrev fx21_25 (qa1 : Addr) (r1 : ByteArray × Int × Unit) (u7 : Option Addr × Unit) (u24 : Option Addr × Unit) : List (Tmp × Value) := [(1, .pointer (some qa1)), (6, .int .i64 r1.2.1), (7, .pointer u7.1), (9, .pointer u24.1)]
abbrev mx21_25 : List (Tmp × Comp) := [(99, .leaf .bool)]
def s21_25 : Script := .qt (.pt (.ld .sl (.pt (.ld (.int .i64) (.pt (.ld .sl .nil))))))
theorem t21_25 (qa1 : Addr) (r1 : ByteArray × Int × Unit) (u7 : Option Addr × Unit) (u24 : Option Addr × Unit) (g : Nat → Value) : pieceT Tryz.prog (at_ Tryz.f21 [1, 1, 1, 0, 1, 0, 1, 1, 1, 0, 1, 1, 1, 1, 0, 0]) 181 (fx21_25 qa1 r1 u7 u24) g (mx21_25.map (·.1)) [] [] s21_25 =
  .drawn
    (.ptr u24.1 (fun a26 =>
      .load a26 .sl (fun l27 =>
        .ptr u7.1 (fun a28 =>
          .load (a28.add 1) (.int .i64) (fun x29 =>
            .ptr u7.1 (fun a30 =>
              .load a30 .sl (fun l31 =>
                .undrawn
                  (.fin .normal [(99, .bool (Decidable.decide (IntKind.i64.wrap ((↑l27.snd.fst : Int) + IntKind.i64.wrap (x29 * (↑l31.snd.fst : Int))) > 2000)))])))
              (.stuck)))
          (.stuck)))
      (.stuck)) := by kernel_rfl
abbrev fx21_36 (u7 : Option Addr × Unit) (u24 : Option Addr × Unit) (g32 : Nat → Value) (x35 : Int) : List (Tmp × Value) := [(4, g32 4), (7, .pointer u7.1), (9, .pointer u24.1), (107, .int .i64 x35)]
abbrev m21_36 : List (Tmp × Comp) := [(108, .leaf (.int .i64))]
abbrev mx21_36 : List (Tmp × Comp) := []
abbrev mr21_36 : List (Tmp × Comp) := []
abbrev fx21_39 (u7 : Option Addr × Unit) (u24 : Option Addr × Unit) (g32 : Nat → Value) (x35 : Int) (x_108 : Int) (l38 : Option Addr × Nat × Nat) : List (Tmp × Value) := [(4, g32 4), (7, .pointer u7.1), (9, .pointer u24.1), (107, .int .i64 x35), (108, .int .i64 x_108), (113, .slice l38.1 l38.2.1 l38.2.2), (114, .int .i64 (↑l38.snd.fst : Int))]
abbrev m21_39 : List (Tmp × Comp) := [(115, .leaf (.int .i64))]
abbrev mx21_39 : List (Tmp × Comp) := []
abbrev mr21_39 : List (Tmp × Comp) := []
def s21_39 : Script := .sym (.ix (.ld (.int .i64) (.ld (.int .i64) (.ld (.int .i64) (.ld .sl (.ld .sl (.cl (.one (.leaf .sl)) (.hd0 (.hq 0 (.hq 1 (.hq 2 (.pt (.hq 3 (.hq 5 (.ld (.int .i64) (.ld (.int .i64) (.ld (.int .i64) (.ld .sl (.hl 4 (.ld .sl (.he 6 (.he 7 (.rn (.one (.leaf .sl)) (.hq 8 (.pt (.hq 9 (.he 10 .nil)))))))) (.hl 6 (.he 4 (.ld .sl (.he 7 (.rn (.one (.leaf .sl)) (.hq 8 (.pt (.hq 9 (.he 10 .nil)))))))) .nil)))))))))))))))))))) .nil
theorem t21_39 (u7 : Option Addr × Unit) (u24 : Option Addr × Unit) (g32 : Nat → Value) (x35 : Int) (x_108 : Int) (l38 : Option Addr × Nat × Nat) (x_115 : Int) (g : Nat → Value) : pieceT Tryz.prog (at_ Tryz.f21 [1, 1, 1, 0, 1, 0, 1, 1, 1, 0, 1, 1, 1, 1, 1, 0, 1, 0, 0, 1, 1, 0, 0, 1, 0, 0]) 181 (fx21_39 u7 u24 g32 x35 x_108 l38 ++ mvals m21_39 (x_115, ())) g (m21_39.map (·.1)) (mx21_39.map (·.1)) (mr21_39.map (·.1)) s21_39 =
  .br (Decidable.decide (x_115 < (↑l38.snd.fst : Int)))
    (.idx l38.1 x_115 l38.2.1 4 (fun a40 =>
      .load a40 (.int .i64) (fun x41 =>
        .load (a40.add 1) (.int .i64) (fun x42 =>
          .load (a40.add 2) (.int .i64) (fun x43 =>
            .load (a40.add 3) .sl (fun l44 =>
              .new (.cells #[.int .i64 0, .int .i64 0, .int .i64 0, .slice none 0 0] 38 (0, 0)) (fun n45 =>
                .store ⟨n45, 0, none⟩ (.int .i64 x41)
                  (.store ⟨n45, 1, none⟩ (.int .i64 x42)
                    (.store ⟨n45, 2, none⟩ (.int .i64 x43)
                      (.store ⟨n45, 3, none⟩ (.slice l44.1 l44.2.1 l44.2.2)
                        (.load ⟨n45, 3, none⟩ .sl (fun l46 =>
                          .call 59 #[.slice l46.1 l46.2.1 l46.2.2] (.one (.leaf .sl)) (fun l47 =>
                            .store ⟨n45, 3, none⟩ (.slice l47.1 l47.2.1 l47.2.2)
                              (.hdrawn
                                (.ptr u24.1 (fun a48 =>
                                  .load ⟨n45, 0, none⟩ (.int .i64) (fun x49 =>
                                    .load ⟨n45, 1, none⟩ (.int .i64) (fun x50 =>
                                      .load ⟨n45, 2, none⟩ (.int .i64) (fun x51 =>
                                        .load ⟨n45, 3, none⟩ .sl (fun l52 =>
                                          .both
                                            (.eff
                                              (.load a48 .sl (fun l53 =>
                                                .back
                                                  (.eff
                                                    (.new (.cells #[.int .i64 x49, .int .i64 x50, .int .i64 x51, .slice l52.1 l52.2.1 l52.2.2] 38 (0, 0)) (fun n54 =>
                                                      .back
                                                        (.eff
                                                          (.run (builtin .append #[22, 22] 22 #[false, false] #[.slice l53.1 l53.2.1 l53.2.2, .slice (some ⟨n54, 0, none⟩) 1 1]) (.one (.leaf .sl)) (fun l55 =>
                                                            .back
                                                              (.ptr u24.1 (fun a56 =>
                                                                .eff
                                                                  (.store a56 (.slice l55.1 l55.2.1 l55.2.2)
                                                                    (.back
                                                                      (.undrawn
                                                                        (.fin .normal [(115, .int .i64 (IntKind.i64.wrap (x_115 + 1)))])))))
                                                                (.stuck)))))))))))
                                            (.both
                                              (.eff
                                                (.new (.cells #[.int .i64 x49, .int .i64 x50, .int .i64 x51, .slice l52.1 l52.2.1 l52.2.2] 38 (0, 0)) (fun n57 =>
                                                  .back
                                                    (.eff
                                                      (.load a48 .sl (fun l58 =>
                                                        .back
                                                          (.eff
                                                            (.run (builtin .append #[22, 22] 22 #[false, false] #[.slice l58.1 l58.2.1 l58.2.2, .slice (some ⟨n57, 0, none⟩) 1 1]) (.one (.leaf .sl)) (fun l59 =>
                                                              .back
                                                                (.ptr u24.1 (fun a60 =>
                                                                  .eff
                                                                    (.store a60 (.slice l59.1 l59.2.1 l59.2.2)
                                                                      (.back
                                                                        (.undrawn
                                                                          (.fin .normal [(115, .int .i64 (IntKind.i64.wrap (x_115 + 1)))])))))
                                                                  (.stuck)))))))))))
                                              (.triv)))))))
                                  (.stuck))))))))))))))))
    (.fin (.exit 3) []) := by kernel_rfl
def s21_36 : Script := .sym (.pt (.ld .sl (.lp 3 [4, 7, 9, 107, 108, 113, 114] [115] mx21_39 mr21_39 .nil .nil))) .nil
theorem t21_36 (u7 : Option Addr × Unit) (u24 : Option Addr × Unit) (g32 : Nat → Value) (x35 : Int) (x_108 : Int) (g : Nat → Value) : pieceT Tryz.prog (at_ Tryz.f21 [1, 1, 1, 0, 1, 0, 1, 1, 1, 0, 1, 1, 1, 1, 1, 0, 1, 0, 0]) 181 (fx21_36 u7 u24 g32 x35 ++ mvals m21_36 (x_108, ())) g (m21_36.map (·.1)) (mx21_36.map (·.1)) (mr21_36.map (·.1)) s21_36 =
  .br (Decidable.decide (x_108 < x35))
    (.ptr u7.1 (fun a37 =>
      .load a37 .sl (fun l38 =>
        .loop (at_ Tryz.f21 [1, 1, 1, 0, 1, 0, 1, 1, 1, 0, 1, 1, 1, 1, 1, 0, 1, 0, 0, 1, 1, 0, 0, 1, 0, 0]) 181 (fx21_39 u7 u24 g32 x35 x_108 l38) [(115, .int .i64 0)] mx21_39 mr21_39 3 (fun u61 g61 =>
          .fin .normal [(108, .int .i64 (IntKind.i64.wrap (x_108 + 1)))]) (fun u62 g62 =>
          .stuck)))
      (.stuck))
    (.fin (.exit 1) []) := by kernel_rfl
abbrev fx21_65 (qa1 : Addr) (r1 : ByteArray × Int × Unit) (u7 : Option Addr × Unit) (g7 : Nat → Value) : List (Tmp × Value) := [(1, .pointer (some qa1)), (4, g7 4), (5, .string r1.1), (6, .int .i64 r1.2.1), (7, .pointer u7.1)]
abbrev m21_65 : List (Tmp × Comp) := [(12, .leaf (.int .i64)), (13, .leaf (.int .i64))]
abbrev mx21_65 : List (Tmp × Comp) := [(12, .leaf (.int .i64))]
abbrev mr21_65 : List (Tmp × Comp) := []
def s21_65 : Script := .sym (.ix (.ld .str (.sym .nil .nil))) .nil
theorem t21_65 (qa1 : Addr) (r1 : ByteArray × Int × Unit) (u7 : Option Addr × Unit) (g7 : Nat → Value) (x_12 : Int) (x_13 : Int) (g : Nat → Value) : pieceT Tryz.prog (at_ Tryz.f21 [1, 1, 1, 1, 1, 0, 1, 0, 0]) 181 (fx21_65 qa1 r1 u7 g7 ++ mvals m21_65 (x_12, x_13, ())) g (m21_65.map (·.1)) (mx21_65.map (·.1)) (mr21_65.map (·.1)) s21_65 =
  .br (Decidable.decide (x_13 ≤ 9))
    (.idx (some ⟨0, 0, none⟩) x_13 10 2 (fun a66 =>
      .load a66 .str (fun s67 =>
        .br (s67.toList == r1.fst.toList)
          (.fin .normal [(12, .int .i64 x_13), (13, .int .i64 (IntKind.i64.wrap (x_13 + 1)))])
          (.fin .normal [(12, .int .i64 x_12), (13, .int .i64 (IntKind.i64.wrap (x_13 + 1)))]))))
    (.fin (.exit 5) [(12, .int .i64 x_12)]) := by kernel_rfl
abbrev fx21_76 (u7 : Option Addr × Unit) (n71 : Nat) : List (Tmp × Value) := [(7, .pointer u7.1), (14, .pointer (some ⟨n71, 0, none⟩))]
abbrev mx21_76 : List (Tmp × Comp) := []
def s21_76 : Script := .hd0 (.hq 0 (.hq 1 (.hq 2 (.pt (.hq 3 (.hq 5 (.ld (.int .i64) (.ld (.int .i64) (.ld (.int .i64) (.ld .sl (.hl 4 (.ld .sl (.he 6 (.he 7 (.rn (.one (.leaf .sl)) (.hq 8 (.pt (.hq 9 (.he 10 .nil)))))))) (.hl 6 (.he 4 (.ld .sl (.he 7 (.rn (.one (.leaf .sl)) (.hq 8 (.pt (.hq 9 (.he 10 .nil)))))))) .nil))))))))))))
theorem t21_76 (u7 : Option Addr × Unit) (n71 : Nat) (g : Nat → Value) : pieceT Tryz.prog (at_ Tryz.f21 [1, 1, 1, 1, 1, 1, 1, 1, 1, 1, 0]) 181 (fx21_76 u7 n71) g (mx21_76.map (·.1)) [] [] s21_76 =
  .hdrawn
    (.ptr u7.1 (fun a77 =>
      .load ⟨n71, 0, none⟩ (.int .i64) (fun x78 =>
        .load ⟨n71, 1, none⟩ (.int .i64) (fun x79 =>
          .load ⟨n71, 2, none⟩ (.int .i64) (fun x80 =>
            .load ⟨n71, 3, none⟩ .sl (fun l81 =>
              .both
                (.eff
                  (.load a77 .sl (fun l82 =>
                    .back
                      (.eff
                        (.new (.cells #[.int .i64 x78, .int .i64 x79, .int .i64 x80, .slice l81.1 l81.2.1 l81.2.2] 38 (0, 0)) (fun n83 =>
                          .back
                            (.eff
                              (.run (builtin .append #[22, 22] 22 #[false, false] #[.slice l82.1 l82.2.1 l82.2.2, .slice (some ⟨n83, 0, none⟩) 1 1]) (.one (.leaf .sl)) (fun l84 =>
                                .back
                                  (.ptr u7.1 (fun a85 =>
                                    .eff
                                      (.store a85 (.slice l84.1 l84.2.1 l84.2.2)
                                        (.back
                                          (.undrawn
                                            (.fin .normal [])))))
                                    (.stuck)))))))))))
                (.both
                  (.eff
                    (.new (.cells #[.int .i64 x78, .int .i64 x79, .int .i64 x80, .slice l81.1 l81.2.1 l81.2.2] 38 (0, 0)) (fun n86 =>
                      .back
                        (.eff
                          (.load a77 .sl (fun l87 =>
                            .back
                              (.eff
                                (.run (builtin .append #[22, 22] 22 #[false, false] #[.slice l87.1 l87.2.1 l87.2.2, .slice (some ⟨n86, 0, none⟩) 1 1]) (.one (.leaf .sl)) (fun l88 =>
                                  .back
                                    (.ptr u7.1 (fun a89 =>
                                      .eff
                                        (.store a89 (.slice l88.1 l88.2.1 l88.2.2)
                                          (.back
                                            (.undrawn
                                              (.fin .normal [])))))
                                      (.stuck)))))))))))
                  (.triv)))))))
      (.stuck)) := by kernel_rfl
def s21 : Script := .cl (.tup [.leaf .str, .leaf (.int .i64)]) (.ct 0 [0, 1, 5, 6] mx21_2 (.sym (.cl (.one (.leaf .any)) .nil) (.sym (.ld .sl (.sym (.cl (.one (.leaf .any)) .nil) (.cl (.one (.leaf .any)) (.nop (.nop (.rn (.one (.leaf .bool)) (.sym .nil (.ct 0 [0, 1, 6, 7] mx21_13 (.ct 0 [0, 1, 6, 7] mx21_19 (.ct 1 [1, 6, 7, 9] mx21_25 (.sym (.cl (.one (.leaf .any)) .nil) (.pt (.ld (.int .i64) (.lp 1 [4, 7, 9, 107] [108] mx21_36 mr21_36 .nil .nil)))))))))))))) (.lp 5 [1, 4, 5, 6, 7] [12, 13] mx21_65 mr21_65 (.sym (.cl (.one (.leaf .any)) .nil) (.cl (.tup [.agg [.int .i64, .int .i64, .int .i64, .sl], .leaf .any]) (.nop (.nop (.nop (.nop (.nop (.nop (.nop (.rn (.one (.leaf .bool)) (.sym .nil (.pt (.ld .sl (.sym (.cl (.one (.leaf .any)) .nil) (.ct 0 [7, 14] mx21_76 .nil))))))))))))))) .nil))))
theorem t21 (qa0 : Addr) (qa1 : Addr) : fnT Tryz.prog Tryz.f21 #[.pointer (some qa0), .pointer (some qa1)] s21 =
  .call 56 #[.pointer (some qa1)] (.tup [.leaf .str, .leaf (.int .i64)]) (fun r1 =>
    .cut (at_ Tryz.f21 [1, 1, 0]) 181 (fx21_2 qa0 qa1 r1) mx21_2 (fun u7 g7 =>
      .br (r1.fst.toList == (bytesL [114, 101, 112, 101, 97, 116]).toList)
        (.call 57 #[.pointer (some qa0), .pointer (some qa1), .int .i64 r1.2.1] (.one (.leaf .any)) (fun v8 =>
          .done (.returned v8)))
        (.br (r1.fst.toList == (bytesL [101, 110, 100]).toList)
          (.load qa0 .sl (fun l9 =>
            .br ((↑l9.snd.fst : Int) == 1)
              (.call 22 #[.pointer (some qa1), .int .i64 r1.2.1, .iface 69 (.int .i64 66)] (.one (.leaf .any)) (fun v10 =>
                .done (.returned v10)))
              (.call 58 #[.pointer (some qa1)] (.one (.leaf .any)) (fun v11 =>
                .run (vNext (guarded .neq 24 (.tmp 54) (.const .nilIface) v11 .nilIface)) (.one (.leaf .bool)) (fun b12 =>
                  .br b12
                    (.done (.returned v11))
                    (.cut (at_ Tryz.f21 [1, 1, 1, 0, 1, 0, 1, 1, 1, 0, 1, 1, 0]) 181 (fx21_13 qa0 qa1 r1 u7) mx21_13 (fun u18 g18 =>
                      .cut (at_ Tryz.f21 [1, 1, 1, 0, 1, 0, 1, 1, 1, 0, 1, 1, 1, 0]) 181 (fx21_19 qa0 qa1 r1 u7) mx21_19 (fun u24 g24 =>
                        .cut (at_ Tryz.f21 [1, 1, 1, 0, 1, 0, 1, 1, 1, 0, 1, 1, 1, 1, 0, 0]) 181 (fx21_25 qa1 r1 u7 u24) mx21_25 (fun u32 g32 =>
                          .br u32.1
                            (.call 22 #[.pointer (some qa1), .int .i64 r1.2.1, .iface 69 (.int .i64 65)] (.one (.leaf .any)) (fun v33 =>
                              .done (.returned v33)))
                            (.ptr u7.1 (fun a34 =>
                              .load (a34.add 1) (.int .i64) (fun x35 =>
                                .loop (at_ Tryz.f21 [1, 1, 1, 0, 1, 0, 1, 1, 1, 0, 1, 1, 1, 1, 1, 0, 1, 0, 0]) 181 (fx21_36 u7 u24 g32 x35) [(108, .int .i64 0)] mx21_36 mr21_36 1 (fun u63 g63 =>
                                  .done (.returned .nilIface)) (fun u64 g64 =>
                                  .stuck)))
                              (.stuck)))))))))))
          (.loop (at_ Tryz.f21 [1, 1, 1, 1, 1, 0, 1, 0, 0]) 181 (fx21_65 qa1 r1 u7 g7) [(12, .int .i64 0), (13, .int .i64 1)] mx21_65 mr21_65 5 (fun u68 g68 =>
            .br (u68.fst == 0)
              (.call 22 #[.pointer (some qa1), .int .i64 r1.2.1, .iface 69 (.int .i64 61)] (.one (.leaf .any)) (fun v69 =>
                .done (.returned v69)))
              (.call 60 #[.pointer (some qa1), .int .i64 u68.1] (.tup [.agg [.int .i64, .int .i64, .int .i64, .sl], .leaf .any]) (fun r70 =>
                .new (.cells #[.int .i64 0, .int .i64 0, .int .i64 0, .slice none 0 0] 38 (0, 0)) (fun n71 =>
                  .store ⟨n71, 0, none⟩ (.int .i64 r70.1.1)
                    (.store ⟨n71, 1, none⟩ (.int .i64 r70.1.2.1)
                      (.store ⟨n71, 2, none⟩ (.int .i64 r70.1.2.2.1)
                        (.store ⟨n71, 3, none⟩ (.slice r70.1.2.2.2.1.1 r70.1.2.2.2.1.2.1 r70.1.2.2.2.1.2.2)
                          (.run (vNext (guarded .neq 24 (.tmp 158) (.const .nilIface) r70.snd.1 .nilIface)) (.one (.leaf .bool)) (fun b72 =>
                            .br b72
                              (.done (.returned r70.snd.1))
                              (.ptr u7.1 (fun a73 =>
                                .load a73 .sl (fun l74 =>
                                  .br ((↑l74.snd.fst : Int) == 2000)
                                    (.call 22 #[.pointer (some qa1), .int .i64 r1.2.1, .iface 69 (.int .i64 65)] (.one (.leaf .any)) (fun v75 =>
                                      .done (.returned v75)))
                                    (.cut (at_ Tryz.f21 [1, 1, 1, 1, 1, 1, 1, 1, 1, 1, 0]) 181 (fx21_76 u7 n71) mx21_76 (fun u90 g90 =>
                                      .done (.returned .nilIface)))))
                                (.stuck))))))))))) (fun u91 g91 =>
            .stuck))))) := by kernel_rfl

theorem noTy_ent {w : World} {e : Ent} {x : BlkM} (h : EntOk w e x) {t : TypeId} (h1 : tBlk ≠ t) (h2 : tOp ≠ t) : NoTy w (entS e) t := fun k cur hk hs => by
  obtain ⟨cur', t', h', ht⟩ := entS_ty h hs
  rw [hk] at h'
  simp only [Option.some.injEq, Obj.cells.injEq] at h'
  rcases ht with ht | ht
  · exact h1 (ht.symm.trans h'.2.1.symm)
  · exact h2 (ht.symm.trans h'.2.1.symm)
theorem EntOk.line_ty {w : World} {e : Ent} {x : BlkM} (h : EntOk w e x) {S : Nat → Prop} (hS : NoTy w S tCur) (a : Addr) (ha : e.line = some a) : ¬ S a.block := by
  obtain ⟨b, s, r, rfl, hb⟩ := h.line a ha
  exact hb.blk.noTy hS
theorem EntOk.no {w w' : World} {e : Ent} {x : BlkM} (h : EntOk w e x) (hc : Ch No w w') : EntOk w' e x := h.ch hc (fun _ _ h => h) (noTy_no _ _) (fun _ _ h => h)
theorem EntOk.put {w w' : World} {e : Ent} {x : BlkM} {o : OpM} {q : Option Addr} {c : Nat} (h : EntOk w e x) (p : Put w e x o w' q c) : EntOk w' { e with p := q, n := e.n + 1, c := c } { x with ops := x.ops ++ [o] } :=
  ⟨p.blk, p.ops, h.line.ch p.ch (h.line_ty (noTy_ent h (by decide) (by decide)))⟩
theorem EntOk.lt {w : World} {e : Ent} {x : BlkM} (h : EntOk w e x) {k : Nat} (hk : entS e k) : k < w.heap.size := by
  obtain ⟨cur, t, h', _⟩ := entS_ty h hk
  exact (Array.getElem?_eq_some_iff.1 h').1
theorem clone_any (p : Option Addr) (n c : Nat) (l : List Int) (w : World) (h : Row w 0 tInt 1 p n c (intCells l)) (hn : n ≤ 100000) :
    Calls Tryz.prog 59 #[.slice p n c] w fun e w' => ∃ p' n' c', e = .returned (.slice p' n' c') ∧ Row w' 0 tInt 1 p' n' c' (intCells l) ∧ Ch No w w' := by
  have hlen := h.len
  simp only [intCells, List.length_map, Nat.mul_one] at hlen
  cases p with
  | none =>
    have h0 : n = 0 := by
      rcases Nat.eq_zero_or_pos n with h0 | h0
      · exact h0
      · obtain ⟨g, e, _⟩ := h.get h0
        cases e
    subst h0
    refine (Tryz.slices_Clone_int_nil 0 c w).mono ?_
    rintro e w' ⟨rfl, rfl⟩
    have : l = [] := by simpa using hlen
    subst this
    exact ⟨none, 0, 0, rfl, Row.nil _ _ _ _, Ch.refl _ _⟩
  | some a =>
    rcases Nat.eq_zero_or_pos n with h0 | h0
    · subst h0
      have : l = [] := by simpa using hlen
      subst this
      refine (Tryz.slices_Clone_int_zero a c w).mono ?_
      rintro e w' ⟨v, rfl, ho, _, hb⟩
      obtain ⟨p', c', rfl, hr⟩ := Row.of ho
      exact ⟨p', 0, c', rfl, hr.base (Nat.zero_le _), Ch.of_below hb⟩
    · obtain ⟨g, e, _, hc⟩ := h.get h0
      cases e
      refine (Tryz.slices_Clone_int g 0 n c l w (by omega) (by omega) (fun j hj => ?_)).mono ?_
      · rw [Nat.zero_add]
        refine hc j _ ?_
        simp [intCells, List.getD, List.getElem?_eq_getElem hj]
      · rintro e w' ⟨v, rfl, ho, _, hb⟩
        obtain ⟨p', c', rfl, hr⟩ := Row.of ho
        rw [List.take_of_length_le (by omega)] at hr
        exact ⟨p', n, c', rfl, hr.base (Nat.zero_le _), Ch.of_below hb⟩
/-- While steps are put to the block around. -/
structure Fo (e0 e1 : Ent) (x0 x1 : BlkM) (w0 : World) (acc : List OpM) (e : Ent) (w : World) : Prop where
  ch : Ch (entS e1) w0 w
  top : EntOk w e0 x0
  around : EntOk w e { x1 with ops := acc }
  id : e.id = e1.id
  line : e.line = e1.line
  lies : ∀ k, entS e k → entS e1 k ∨ w0.heap.size ≤ k
  apart : ∀ k, entS e0 k → ¬ entS e k
section
variable {R : Ending → World → Prop} {Q : Exit → List (Tmp × Value) → World → Prop}
theorem in_loop {e0 e1 e : Ent} {x0 x1 : BlkM} {w0 w : World} {acc : List OpM} {kx : MVars mx21_39 → (Nat → Value) → T} {kr : MVars mr21_39 → (Nat → Value) → T} (u7 u24 : Option Addr × Unit) (g32 : Nat → Value) (x35 x108 : Int) (F : Fo e0 e1 x0 x1 w0 acc e w) (hf : FewB x0) (ha : acc.length + x0.ops.length ≤ 2000)
    (hu : u24 = (some ⟨e1.id, 0, none⟩, ())) (h : ∀ e' w' g', Fo e0 e1 x0 x1 w0 (acc ++ x0.ops) e' w' → wpT Tryz.prog R Q (kx () g') .pl w') :
    wpT Tryz.prog R Q (.loop (at_ Tryz.f21 [1, 1, 1, 0, 1, 0, 1, 1, 1, 0, 1, 1, 1, 1, 1, 0, 1, 0, 0, 1, 1, 0, 0, 1, 0, 0]) 181 (fx21_39 u7 u24 g32 x35 x108 (e0.p, e0.n, e0.c)) [(115, .int .i64 0)] mx21_39 mr21_39 3 kx kr) .pl w := by
  subst hu
  have hlen := F.top.ops.len
  refine loop_i mixed m21_39 s21_39 (by kernel_rfl) (by kernel_rfl)
    (fun (v : Int × Unit) w' => 0 ≤ v.1 ∧ v.1 ≤ e0.n ∧ ∃ e', Fo e0 e1 x0 x1 w0 (acc ++ x0.ops.take v.1.toNat) e' w') (fun (v : Int × Unit) _ => e0.n - v.1.toNat) (0, ()) rfl ⟨by simp, by simp, e, by simpa using F⟩ ?_
  rintro ⟨(i : Int), ⟨⟩⟩ g w1 ⟨(i0 : 0 ≤ i), (i1 : i ≤ e0.n), e', F1⟩
  rw [t21_39]
  dsimp only at F1 ⊢
  refine br_both (fun e => ?_) fun e => ?_
  · have hi : i < e0.n := lt_t e
    obtain ⟨o, ho⟩ : ∃ u, x0.ops[i.toNat]? = some u := ⟨_, List.getElem?_eq_getElem (by omega)⟩
    obtain ⟨cs, hr, hoc⟩ := F1.top.ops
    obtain ⟨gb, hp, _, hcell⟩ := hr.get (by omega)
    obtain ⟨kp, kn, kc, hk, c0, c1, c2, c3⟩ := hoc.get i.toNat o ho
    rw [hp]
    refine ix_i i0 hi ?_
    simp only [addr_add, Nat.zero_add]
    refine ld_int (hcell _ _ c0) (ld_int (hcell _ _ c1) (ld_int (hcell _ _ c2) (ld_sl (hcell _ _ c3) ?_)))
    refine nw fun w2 h2 z2 b2 => ?_
    refine st4 (x0 := .int .i64 o.kind) (x1 := .int .i64 o.a) (x2 := .int .i64 o.b) (x3 := .slice kp kn kc) b2 rfl rfl rfl rfl fun w3 h3 b3 => ?_
    have H3 : Ch No w1 w3 := h2.then_ h3 (fun i hi (e : i = _) => by omega)
    refine ld_sl (b3.cell 3) ?_
    have hkl : kn ≤ 100000 := by
      have h1 := hk.len
      have h2 := hf.2.2 o (List.mem_of_getElem? ho)
      simp only [intCells, List.length_map, Nat.mul_one] at h1
      omega
    refine cl_i (clone_any kp kn kc o.keep w3 (hk.no H3) hkl) ?_
    rintro e2 w4 ⟨p', n', c', rfl, hk4, h4⟩
    refine ⟨(p', n', c'), rfl, ?_⟩
    have b4 := b3.ch h4 (fun h => h)
    refine st_blk b4 (by simp) rfl fun w5 h5 z5 b5 => ?_
    have H5 : Ch No w1 w5 := (H3.trans h4).then_ h5 (fun i hi (e : i = _) => by omega)
    have hk5 := hk4.ch h5 (hk4.noTy (noTy_blk b4 (by decide)))
    have b5' : Blk w5 w1.heap.size (opTuple o p' n' c') tOp := b5
    have A5 := F1.around.no H5
    have T5 := F1.top.no H5
    have hal := F1.around.ops.len
    dsimp only at hal
    have htl : (acc ++ x0.ops.take i.toNat).length ≤ 2000 := by
      rw [List.length_append, List.length_take]; omega
    rw [show e1.id = e'.id from F1.id.symm]
    refine put_op (x := { x1 with ops := acc ++ x0.ops.take i.toNat }) A5.blk A5.ops hk5 (by dsimp only; omega) b5' (fun hn => ?_) fun w6 q6 c6 P => ?_
    · have := F1.around.lt (.inr hn)
      omega
    · have hch : Ch (entS e1) w0 w6 := (F1.ch.trans H5.no).then_ P.ch (fun i hi h => by
        rcases F1.lies i h with h' | h'
        · exact h'
        · omega)
      refine ⟨(i + 1, ()), ?_, ⟨by dsimp only; omega, by dsimp only; omega, { e' with p := q6, n := e'.n + 1, c := c6 }, ⟨hch, ?_, ?_, F1.id, F1.line, ?_, ?_⟩⟩, by dsimp only; omega⟩
      · rw [wrap_succ i0 (by omega)]; rfl
      · exact T5.ch P.ch F1.apart (noTy_ent A5 (by decide) (by decide)) (T5.line_ty (noTy_ent A5 (by decide) (by decide)))
      · have := A5.put P
        dsimp only at this ⊢
        rw [show (i + 1).toNat = i.toNat + 1 by omega, List.take_add_one, ho, ← List.append_assoc]
        exact this
      · intro k hk
        rcases hk with rfl | hk
        · exact F1.lies _ (.inl rfl)
        · rcases P.lies k hk with h | h
          · exact F1.lies k (.inr h)
          · right
            have := H5.size
            have := F1.ch.size
            omega
      · intro k hk hk'
        rcases hk' with rfl | hk'
        · exact F1.apart _ hk (.inl rfl)
        · rcases P.lies k hk' with h | h
          · exact F1.apart k hk (.inr h)
          · have := T5.lt hk
            omega
  · have hi : e0.n ≤ i := lt_f e
    refine ⟨rfl, (), rfl, fun g => h e' w1 g ?_⟩
    rw [List.take_of_length_le (by omega)] at F1
    exact F1
theorem rep_succ (k : Nat) (l : List OpM) : (List.replicate (k + 1) l).flatten = (List.replicate k l).flatten ++ l := by
  rw [List.replicate_succ', List.flatten_append]; simp
theorem rep_len (k : Nat) (l : List OpM) : ((List.replicate k l).flatten).length = k * l.length := by simp
theorem out_loop {e0 e1 e : Ent} {x0 x1 : BlkM} {w0 w : World} {kx : MVars mx21_36 → (Nat → Value) → T} {kr : MVars mr21_36 → (Nat → Value) → T} (u7 u24 : Option Addr × Unit) (g32 : Nat → Value) (F : Fo e0 e1 x0 x1 w0 x1.ops e w) (hf : FewB x0) (ha : x1.ops.length + x0.times * x0.ops.length ≤ 2000)
    (hu7 : u7 = (some ⟨e0.id, 0, none⟩, ())) (hu : u24 = (some ⟨e1.id, 0, none⟩, ())) (h : ∀ e' w' g', Fo e0 e1 x0 x1 w0 (x1.ops ++ (List.replicate x0.times x0.ops).flatten) e' w' → wpT Tryz.prog R Q (kx () g') .pl w') :
    wpT Tryz.prog R Q (.loop (at_ Tryz.f21 [1, 1, 1, 0, 1, 0, 1, 1, 1, 0, 1, 1, 1, 1, 1, 0, 1, 0, 0]) 181 (fx21_36 u7 u24 g32 (x0.times : Int)) [(108, .int .i64 0)] mx21_36 mr21_36 1 kx kr) .pl w := by
  subst hu7
  have ht := hf.2.1
  refine loop_i mixed m21_36 s21_36 (by kernel_rfl) (by kernel_rfl)
    (fun (v : Int × Unit) w' => 0 ≤ v.1 ∧ v.1 ≤ x0.times ∧ ∃ e', Fo e0 e1 x0 x1 w0 (x1.ops ++ (List.replicate v.1.toNat x0.ops).flatten) e' w') (fun (v : Int × Unit) _ => x0.times - v.1.toNat) (0, ()) rfl ⟨by simp, by simp, e, by simpa using F⟩ ?_
  rintro ⟨(i : Int), ⟨⟩⟩ g w1 ⟨(i0 : 0 ≤ i), (i1 : i ≤ x0.times), e', F1⟩
  rw [t21_36]
  dsimp only at F1 ⊢
  refine br_both (fun e => ?_) fun e => ?_
  · have hi : i < x0.times := lt_t e
    refine pt_i (ld_sl (F1.top.blk.cell 0) ?_)
    have hm : (i.toNat + 1) * x0.ops.length ≤ x0.times * x0.ops.length := Nat.mul_le_mul_right _ (by omega)
    rw [Nat.add_mul] at hm
    refine in_loop _ u24 g32 _ i F1 hf (by rw [List.length_append, rep_len]; omega) hu fun e2 w2 g2 F2 => ?_
    refine ⟨(i + 1, ()), ?_, ⟨by dsimp only; omega, by dsimp only; omega, e2, ?_⟩, by dsimp only; omega⟩
    · rw [wrap_succ i0 (by omega)]; rfl
    · dsimp only
      rw [show (i + 1).toNat = i.toNat + 1 by omega, rep_succ, ← List.append_assoc]
      exact F2
  · have hi : x0.times ≤ i := lt_f e
    refine ⟨rfl, (), rfl, fun g => h e' w1 g ?_⟩
    rw [show i.toNat = x0.times by omega] at F1
    exact F1
end
end Go.Proofs.YtjlmkahagcojcaaGreatDoor
