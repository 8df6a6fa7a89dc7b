/- The document's answer: a step written. -/
import Derived.Test.YtjlmkahagcojcaaGreatDoorRgc
namespace Go.Proofs.YtjlmkahagcojcaaGreatDoor
open Go Tr
set_option maxRecDepth 100000
/-! the tree of function 74 -/
def s74 : Script := .sym (.lit (.lit .nil)) (.lit (.lit .nil))
theorem t74 (qx0 : Int) : fnT Tryz.prog Tryz.f74 #[.int .i64 qx0] s74 =
  .br (Decidable.decide (qx0 ≥ -999999999))
    (.done (.returned (.bool (Decidable.decide (qx0 ≤ 999999999)))))
    (.done (.returned (.bool false))) := by kernel_rfl
/-! the tree of function 40 -/
abbrev fx40_4 (n1 : Nat) (r3 : ByteArray × Int × Unit) : List (Tmp × Value) := [(1, .pointer (some ⟨n1, 0, none⟩)), (4, .string r3.1), (5, .int .i64 r3.2.1)]
abbrev mx40_4 : List (Tmp × Comp) := [(25, .leaf .bool)]
def s40_4 : Script := .sym (.lit (.lit (.lit (.lit (.lit (.lit .nil)))))) (.lit (.ld .sl (.lit (.lit (.lit (.sym (.lit (.ld (.int .i64) (.lit (.lit (.lit (.lit .nil)))))) (.lit (.lit (.lit (.lit (.lit .nil)))))))))))
theorem t40_4 (n1 : Nat) (r3 : ByteArray × Int × Unit) (g : Nat → Value) : pieceT Tryz.prog (at_ Tryz.f40 [1, 1, 0, 0]) 146 (fx40_4 n1 r3) g (mx40_4.map (·.1)) [] [] s40_4 =
  .br (r3.fst.toList == (bytesL []).toList)
    (.fin .normal [(25, .bool true)])
    (.load ⟨n1, 3, none⟩ .sl (fun l5 =>
      .br (Decidable.decide ((↑l5.snd.fst : Int) > 0))
        (.load ⟨n1, 0, none⟩ (.int .i64) (fun x6 =>
          .fin .normal [(25, .bool (x6 != 9))]))
        (.fin .normal [(25, .bool false)]))) := by kernel_rfl
abbrev fx40_9 (n1 : Nat) (r3 : ByteArray × Int × Unit) : List (Tmp × Value) := [(1, .pointer (some ⟨n1, 0, none⟩)), (4, .string r3.1)]
abbrev mx40_9 : List (Tmp × Comp) := [(41, .leaf .bool)]
def s40_9 : Script := .ld (.int .i64) (.sym (.lit (.lit (.lit (.lit (.lit (.lit (.lit .nil))))))) (.lit (.ld (.int .i64) (.lit (.lit (.sym (.lit (.lit (.lit .nil))) (.lit (.ld (.int .i64) (.lit (.lit .nil))))))))))
theorem t40_9 (n1 : Nat) (r3 : ByteArray × Int × Unit) (g : Nat → Value) : pieceT Tryz.prog (at_ Tryz.f40 [1, 1, 1, 0, 1, 0, 0, 0]) 146 (fx40_9 n1 r3) g (mx40_9.map (·.1)) [] [] s40_9 =
  .load ⟨n1, 1, none⟩ (.int .i64) (fun x10 =>
    .br (Decidable.decide (x10 < 0))
      (.fin .normal [(41, .bool true)])
      (.load ⟨n1, 1, none⟩ (.int .i64) (fun x11 =>
        .br (Decidable.decide (x11 > 1000000000))
          (.fin .normal [(41, .bool true)])
          (.load ⟨n1, 2, none⟩ (.int .i64) (fun x12 =>
            .fin .normal [(41, .bool (x12 != 0))]))))) := by kernel_rfl
abbrev fx40_17 (n1 : Nat) : List (Tmp × Value) := [(1, .pointer (some ⟨n1, 0, none⟩))]
abbrev m40_17 : List (Tmp × Comp) := [(4, .leaf .str), (6, .leaf (.int .i64))]
abbrev mx40_17 : List (Tmp × Comp) := [(4, .leaf .str)]
abbrev mr40_17 : List (Tmp × Comp) := [(2, .leaf .str), (3, .leaf .bool)]
def s40_17 : Script := .ld .sl (.sym (.ld .sl (.ix (.ld (.int .i64) (.cl (.one (.leaf .bool)) (.sym .nil (.nd (.ld .sl (.ix (.ld (.int .i64) (.cl (.one (.leaf .str)) (.nd .nil))))))))))) .nil)
theorem t40_17 (n1 : Nat) (s_4 : ByteArray) (x_6 : Int) (g : Nat → Value) : pieceT Tryz.prog (at_ Tryz.f40 [1, 1, 1, 0, 1, 0, 1, 1, 0, 1, 0, 0]) 146 (fx40_17 n1 ++ mvals m40_17 (s_4, x_6, ())) g (m40_17.map (·.1)) (mx40_17.map (·.1)) (mr40_17.map (·.1)) s40_17 =
  .load ⟨n1, 3, none⟩ .sl (fun l18 =>
    .br (Decidable.decide (x_6 < (↑l18.snd.fst : Int)))
      (.load ⟨n1, 3, none⟩ .sl (fun l19 =>
        .idx l19.1 x_6 l19.2.1 1 (fun a20 =>
          .load a20 (.int .i64) (fun x21 =>
            .call 74 #[.int .i64 x21] (.one (.leaf .bool)) (fun b22 =>
              .br (!b22)
                (.fin .ret [(2, .string (bytesL [])), (3, .bool false)])
                (.need (Decidable.decide (s_4.size + (bytesL [32]).size ≤ 9223372036854775807))
                  (.load ⟨n1, 3, none⟩ .sl (fun l23 =>
                    .idx l23.1 x_6 l23.2.1 1 (fun a24 =>
                      .load a24 (.int .i64) (fun x25 =>
                        .call 36 #[.int .i64 x25] (.one (.leaf .str)) (fun s26 =>
                          .need (Decidable.decide ((s_4 ++ bytesL [32]).size + s26.size ≤ 9223372036854775807))
                            (.fin .normal [(4, .string (s_4 ++ bytesL [32] ++ s26)), (6, .int .i64 (IntKind.i64.wrap (x_6 + 1)))]))))))))))))
      (.fin (.exit 0) [(4, .string s_4)])) := by kernel_rfl
abbrev fx40_29 (n1 : Nat) : List (Tmp × Value) := [(1, .pointer (some ⟨n1, 0, none⟩))]
abbrev m40_29 : List (Tmp × Comp) := [(4, .leaf .str), (6, .leaf (.int .i64))]
abbrev mx40_29 : List (Tmp × Comp) := [(4, .leaf .str)]
abbrev mr40_29 : List (Tmp × Comp) := [(2, .leaf .str), (3, .leaf .bool)]
def s40_29 : Script := .ld .sl (.sym (.ld .sl (.ix (.ld (.int .i64) (.cl (.one (.leaf .bool)) (.sym .nil (.nd (.ld .sl (.ix (.ld (.int .i64) (.cl (.one (.leaf .str)) (.nd .nil))))))))))) .nil)
theorem t40_29 (n1 : Nat) (s_4 : ByteArray) (x_6 : Int) (g : Nat → Value) : pieceT Tryz.prog (at_ Tryz.f40 [1, 1, 1, 0, 1, 0, 1, 1, 0, 1, 0, 0]) 146 (fx40_29 n1 ++ mvals m40_29 (s_4, x_6, ())) g (m40_29.map (·.1)) (mx40_29.map (·.1)) (mr40_29.map (·.1)) s40_29 =
  .load ⟨n1, 3, none⟩ .sl (fun l30 =>
    .br (Decidable.decide (x_6 < (↑l30.snd.fst : Int)))
      (.load ⟨n1, 3, none⟩ .sl (fun l31 =>
        .idx l31.1 x_6 l31.2.1 1 (fun a32 =>
          .load a32 (.int .i64) (fun x33 =>
            .call 74 #[.int .i64 x33] (.one (.leaf .bool)) (fun b34 =>
              .br (!b34)
                (.fin .ret [(2, .string (bytesL [])), (3, .bool false)])
                (.need (Decidable.decide (s_4.size + (bytesL [32]).size ≤ 9223372036854775807))
                  (.load ⟨n1, 3, none⟩ .sl (fun l35 =>
                    .idx l35.1 x_6 l35.2.1 1 (fun a36 =>
                      .load a36 (.int .i64) (fun x37 =>
                        .call 36 #[.int .i64 x37] (.one (.leaf .str)) (fun s38 =>
                          .need (Decidable.decide ((s_4 ++ bytesL [32]).size + s38.size ≤ 9223372036854775807))
                            (.fin .normal [(4, .string (s_4 ++ bytesL [32] ++ s38)), (6, .int .i64 (IntKind.i64.wrap (x_6 + 1)))]))))))))))))
      (.fin (.exit 0) [(4, .string s_4)])) := by kernel_rfl
abbrev fx40_41 (n1 : Nat) (r3 : ByteArray × Int × Unit) : List (Tmp × Value) := [(1, .pointer (some ⟨n1, 0, none⟩)), (4, .string r3.1), (5, .int .i64 r3.2.1)]
abbrev mx40_41 : List (Tmp × Comp) := [(109, .leaf .bool)]
def s40_41 : Script := .ld (.int .i64) (.cl (.one (.leaf .bool)) (.sym (.lit (.lit (.lit (.lit (.lit (.lit (.lit (.lit (.lit (.lit (.lit (.lit (.lit (.lit (.lit (.lit .nil)))))))))))))))) (.lit (.ld (.int .i64) (.lit (.cl (.one (.leaf .bool)) (.lit (.lit (.sym (.lit (.lit (.lit (.lit (.lit (.lit (.lit (.lit (.lit (.lit (.lit .nil))))))))))) (.lit (.lit (.sym (.lit (.ld (.int .i64) (.lit (.lit (.lit (.lit (.sym (.lit (.lit (.lit (.lit (.lit (.lit .nil)))))) (.lit (.lit (.sym (.lit (.ld (.int .i64) (.lit (.lit (.lit (.lit (.sym (.lit (.ld (.int .i64) (.lit (.lit (.lit (.lit .nil)))))) (.lit (.lit (.lit (.lit (.lit .nil)))))))))))) (.lit (.lit (.lit (.lit (.lit (.lit (.lit (.lit (.lit (.lit (.lit .nil))))))))))))))))))))) (.lit (.lit (.lit (.lit (.lit (.lit (.lit (.lit (.sym (.lit (.ld (.int .i64) (.lit (.lit (.lit (.lit (.sym (.lit (.ld (.int .i64) (.lit (.lit (.lit (.lit .nil)))))) (.lit (.lit (.lit (.lit (.lit .nil)))))))))))) (.lit (.lit (.lit (.lit (.lit (.lit (.lit (.lit (.lit (.lit (.lit .nil))))))))))))))))))))))))))))))))
theorem t40_41 (n1 : Nat) (r3 : ByteArray × Int × Unit) (g : Nat → Value) : pieceT Tryz.prog (at_ Tryz.f40 [1, 1, 1, 1, 0, 0]) 146 (fx40_41 n1 r3) g (mx40_41.map (·.1)) [] [] s40_41 =
  .load ⟨n1, 1, none⟩ (.int .i64) (fun x42 =>
    .call 74 #[.int .i64 x42] (.one (.leaf .bool)) (fun b43 =>
      .br (!b43)
        (.fin .normal [(109, .bool true)])
        (.load ⟨n1, 2, none⟩ (.int .i64) (fun x44 =>
          .call 74 #[.int .i64 x44] (.one (.leaf .bool)) (fun b45 =>
            .br (!b45)
              (.fin .normal [(109, .bool true)])
              (.br (Decidable.decide (r3.snd.fst < 1))
                (.load ⟨n1, 1, none⟩ (.int .i64) (fun x46 =>
                  .br (x46 != 0)
                    (.fin .normal [(109, .bool true)])
                    (.br (Decidable.decide (r3.snd.fst < 2))
                      (.load ⟨n1, 2, none⟩ (.int .i64) (fun x47 =>
                        .br (x47 != 0)
                          (.load ⟨n1, 0, none⟩ (.int .i64) (fun x48 =>
                            .fin .normal [(109, .bool (x48 != 7))]))
                          (.fin .normal [(109, .bool false)])))
                      (.fin .normal [(109, .bool false)]))))
                (.br (Decidable.decide (r3.snd.fst < 2))
                  (.load ⟨n1, 2, none⟩ (.int .i64) (fun x49 =>
                    .br (x49 != 0)
                      (.load ⟨n1, 0, none⟩ (.int .i64) (fun x50 =>
                        .fin .normal [(109, .bool (x50 != 7))]))
                      (.fin .normal [(109, .bool false)])))
                  (.fin .normal [(109, .bool false)])))))))) := by kernel_rfl
abbrev fx40_52 (n1 : Nat) (r3 : ByteArray × Int × Unit) : List (Tmp × Value) := [(1, .pointer (some ⟨n1, 0, none⟩)), (4, .string r3.1), (5, .int .i64 r3.2.1)]
abbrev mx40_52 : List (Tmp × Comp) := [(117, .leaf .bool)]
def s40_52 : Script := .ld (.int .i64) (.sym (.lit (.ld (.int .i64) (.lit (.lit .nil)))) (.lit (.lit (.lit .nil))))
theorem t40_52 (n1 : Nat) (r3 : ByteArray × Int × Unit) (g : Nat → Value) : pieceT Tryz.prog (at_ Tryz.f40 [1, 1, 1, 1, 1, 0, 0]) 146 (fx40_52 n1 r3) g (mx40_52.map (·.1)) [] [] s40_52 =
  .load ⟨n1, 0, none⟩ (.int .i64) (fun x53 =>
    .br (x53 == 7)
      (.load ⟨n1, 2, none⟩ (.int .i64) (fun x54 =>
        .fin .normal [(117, .bool (x54 != 0))]))
      (.fin .normal [(117, .bool false)])) := by kernel_rfl
def s40 : Script := .ld (.int .i64) (.cl (.tup [.leaf .str, .leaf (.int .i64)]) (.ct 1 [1, 4, 5] mx40_4 (.sym .nil (.ld (.int .i64) (.sym (.ct 1 [1, 4] mx40_9 (.sym .nil (.ld (.int .i64) (.sym (.nd (.ld (.int .i64) (.cl (.one (.leaf .str)) (.nd (.lp 0 [1] [4, 6] mx40_17 mr40_17 (.nd .nil) .nil))))) (.lp 0 [1] [4, 6] mx40_29 mr40_29 (.nd .nil) .nil))))) (.ct 1 [1, 4, 5] mx40_41 (.sym .nil (.ct 1 [1, 4, 5] mx40_52 (.sym (.qt (.ld (.int .i64) (.cl (.one (.leaf .str)) (.nd (.nd (.ld (.int .i64) (.cl (.one (.leaf .str)) (.nd (.nd .nil))))))))) (.sym (.nd (.ld (.int .i64) (.cl (.one (.leaf .str)) (.nd (.sym (.nd (.ld (.int .i64) (.cl (.one (.leaf .str)) (.nd (.nd .nil))))) (.nd .nil)))))) (.sym (.nd (.ld (.int .i64) (.cl (.one (.leaf .str)) (.nd (.nd .nil))))) (.nd .nil))))))))))))
theorem t40 (qx0_0 : Int) (qx0_1 : Int) (qx0_2 : Int) (qa0_3 : Option Addr) (qn0_3 : Nat) (qc0_3 : Nat) : fnT Tryz.prog Tryz.f40 #[.agg #[.int .i64 qx0_0, .int .i64 qx0_1, .int .i64 qx0_2, .slice qa0_3 qn0_3 qc0_3]] s40 =
  .new (.cells #[.int .i64 qx0_0, .int .i64 qx0_1, .int .i64 qx0_2, .slice qa0_3 qn0_3 qc0_3] 38 (0, 0)) (fun n1 =>
    .load ⟨n1, 0, none⟩ (.int .i64) (fun x2 =>
      .call 64 #[.int .i64 x2] (.tup [.leaf .str, .leaf (.int .i64)]) (fun r3 =>
        .cut (at_ Tryz.f40 [1, 1, 0, 0]) 146 (fx40_4 n1 r3) mx40_4 (fun u7 g7 =>
          .br u7.1
            (.done (.returned (.tuple #[.string (bytesL []), .bool false])))
            (.load ⟨n1, 0, none⟩ (.int .i64) (fun x8 =>
              .br (x8 == 9)
                (.cut (at_ Tryz.f40 [1, 1, 1, 0, 1, 0, 0, 0]) 146 (fx40_9 n1 r3) mx40_9 (fun u13 g13 =>
                  .br u13.1
                    (.done (.returned (.tuple #[.string (bytesL []), .bool false])))
                    (.load ⟨n1, 1, none⟩ (.int .i64) (fun x14 =>
                      .br (Decidable.decide (x14 > 0))
                        (.need (Decidable.decide (r3.fst.size + (bytesL [32, 97, 114, 109, 32]).size ≤ 9223372036854775807))
                          (.load ⟨n1, 1, none⟩ (.int .i64) (fun x15 =>
                            .call 36 #[.int .i64 (IntKind.i64.wrap (x15 - 1))] (.one (.leaf .str)) (fun s16 =>
                              .need (Decidable.decide ((r3.fst ++ bytesL [32, 97, 114, 109, 32]).size + s16.size ≤ 9223372036854775807))
                                (.loop (at_ Tryz.f40 [1, 1, 1, 0, 1, 0, 1, 1, 0, 1, 0, 0]) 146 (fx40_17 n1) [(4, .string (r3.fst ++ bytesL [32, 97, 114, 109, 32] ++ s16)), (6, .int .i64 0)] mx40_17 mr40_17 0 (fun u27 g27 =>
                                  .need (Decidable.decide (u27.fst.size + (bytesL [10]).size ≤ 9223372036854775807))
                                    (.done (.returned (.tuple #[.string (u27.fst ++ bytesL [10]), .bool true])))) (fun u28 g28 =>
                                  .done (.returned (.tuple #[.string u28.1, .bool u28.2.1]))))))))
                        (.loop (at_ Tryz.f40 [1, 1, 1, 0, 1, 0, 1, 1, 0, 1, 0, 0]) 146 (fx40_29 n1) [(4, .string r3.1), (6, .int .i64 0)] mx40_29 mr40_29 0 (fun u39 g39 =>
                          .need (Decidable.decide (u39.fst.size + (bytesL [10]).size ≤ 9223372036854775807))
                            (.done (.returned (.tuple #[.string (u39.fst ++ bytesL [10]), .bool true])))) (fun u40 g40 =>
                          .done (.returned (.tuple #[.string u40.1, .bool u40.2.1]))))))))
                (.cut (at_ Tryz.f40 [1, 1, 1, 1, 0, 0]) 146 (fx40_41 n1 r3) mx40_41 (fun u51 g51 =>
                  .br u51.1
                    (.done (.returned (.tuple #[.string (bytesL []), .bool false])))
                    (.cut (at_ Tryz.f40 [1, 1, 1, 1, 1, 0, 0]) 146 (fx40_52 n1 r3) mx40_52 (fun u55 g55 =>
                      .br u55.1
                        (.drawn
                          (.load ⟨n1, 1, none⟩ (.int .i64) (fun x56 =>
                            .call 36 #[.int .i64 x56] (.one (.leaf .str)) (fun s57 =>
                              .need (Decidable.decide ((bytesL [102, 97, 105, 108, 32]).size + s57.size ≤ 9223372036854775807))
                                (.need (Decidable.decide ((bytesL [102, 97, 105, 108, 32] ++ s57).size + (bytesL [32, 97, 102, 116, 101, 114, 32]).size ≤ 9223372036854775807))
                                  (.load ⟨n1, 2, none⟩ (.int .i64) (fun x58 =>
                                    .call 36 #[.int .i64 x58] (.one (.leaf .str)) (fun s59 =>
                                      .need (Decidable.decide ((bytesL [102, 97, 105, 108, 32] ++ s57 ++ bytesL [32, 97, 102, 116, 101, 114, 32]).size + s59.size ≤ 9223372036854775807))
                                        (.need (Decidable.decide ((bytesL [102, 97, 105, 108, 32] ++ s57 ++ bytesL [32, 97, 102, 116, 101, 114, 32] ++ s59).size + (bytesL [10]).size ≤ 9223372036854775807))
                                          (.undrawn
                                            (.done (.returned (.tuple #[.string (bytesL [102, 97, 105, 108, 32] ++ s57 ++ bytesL [32, 97, 102, 116, 101, 114, 32] ++ s59 ++ bytesL [10]), .bool true])))))))))))))
                        (.br (Decidable.decide (r3.snd.fst > 0))
                          (.need (Decidable.decide (r3.fst.size + (bytesL [32]).size ≤ 9223372036854775807))
                            (.load ⟨n1, 1, none⟩ (.int .i64) (fun x60 =>
                              .call 36 #[.int .i64 x60] (.one (.leaf .str)) (fun s61 =>
                                .need (Decidable.decide ((r3.fst ++ bytesL [32]).size + s61.size ≤ 9223372036854775807))
                                  (.br (Decidable.decide (r3.snd.fst > 1))
                                    (.need (Decidable.decide ((r3.fst ++ bytesL [32] ++ s61).size + (bytesL [32]).size ≤ 9223372036854775807))
                                      (.load ⟨n1, 2, none⟩ (.int .i64) (fun x62 =>
                                        .call 36 #[.int .i64 x62] (.one (.leaf .str)) (fun s63 =>
                                          .need (Decidable.decide ((r3.fst ++ bytesL [32] ++ s61 ++ bytesL [32]).size + s63.size ≤ 9223372036854775807))
                                            (.need (Decidable.decide ((r3.fst ++ bytesL [32] ++ s61 ++ bytesL [32] ++ s63).size + (bytesL [10]).size ≤ 9223372036854775807))
                                              (.done (.returned (.tuple #[.string (r3.fst ++ bytesL [32] ++ s61 ++ bytesL [32] ++ s63 ++ bytesL [10]), .bool true]))))))))
                                    (.need (Decidable.decide ((r3.fst ++ bytesL [32] ++ s61).size + (bytesL [10]).size ≤ 9223372036854775807))
                                      (.done (.returned (.tuple #[.string (r3.fst ++ bytesL [32] ++ s61 ++ bytesL [10]), .bool true])))))))))
                          (.br (Decidable.decide (r3.snd.fst > 1))
                            (.need (Decidable.decide (r3.fst.size + (bytesL [32]).size ≤ 9223372036854775807))
                              (.load ⟨n1, 2, none⟩ (.int .i64) (fun x64 =>
                                .call 36 #[.int .i64 x64] (.one (.leaf .str)) (fun s65 =>
                                  .need (Decidable.decide ((r3.fst ++ bytesL [32]).size + s65.size ≤ 9223372036854775807))
                                    (.need (Decidable.decide ((r3.fst ++ bytesL [32] ++ s65).size + (bytesL [10]).size ≤ 9223372036854775807))
                                      (.done (.returned (.tuple #[.string (r3.fst ++ bytesL [32] ++ s65 ++ bytesL [10]), .bool true]))))))))
                            (.need (Decidable.decide (r3.fst.size + (bytesL [10]).size ≤ 9223372036854775807))
                              (.done (.returned (.tuple #[.string (r3.fst ++ bytesL [10]), .bool true])))))))))))))))) := by kernel_rfl

theorem rsigned_any (n : Int) (w : World) : Calls Tryz.prog 74 #[.int .i64 n] w fun e w' => e = .returned (.bool (decide (Within n))) ∧ w' = w := by
  refine calls_of_fnT mixed Tryz.func74 (s := s74) ?_
  rw [t74]
  refine br_both (fun e => ⟨?_, rfl⟩) fun e => ⟨?_, rfl⟩
  · have e : -999999999 ≤ n := ge_t e
    congr 2
    exact decide_eq_decide.2 ⟨fun h => ⟨e, h⟩, fun h => h.2⟩
  · have e : n < -999999999 := ge_f e
    rw [decide_eq_false (fun h : Within n => by unfold Within at h; omega)]
set_option maxHeartbeats 1000000 in
theorem rkeep_loop_17 {R : Ending → World → Prop} {Q : Exit → List (Tmp × Value) → World → Prop} {w : World} {kx : MVars mx40_17 → (Nat → Value) → T} {kr : MVars mr40_17 → (Nat → Value) → T} (kd a b : Int) (p : Option Addr) (n c n1 : Nat) (keep : List Int) (s0 : ByteArray) (hb1 : Blk w n1 (opCells kd a b p n c) tOp) (hk : AtI w p n keep) (hn : n ≤ 2000000) (hs : s0.size ≤ 1000) (G : Glob w)
    (hx : ∀ t s g w', keepText keep = some t → s.data.toList = s0.data.toList ++ t → s.size ≤ 1000 + 11 * n → Ch No w w' → wpT Tryz.prog R Q (kx (s, ()) g) .pl w')
    (hr : ∀ g w', keepText keep = none → Ch No w w' → wpT Tryz.prog R Q (kr (bytesL [], false, ()) g) .pl w') :
    wpT Tryz.prog R Q (.loop (at_ Tryz.f40 [1, 1, 1, 0, 1, 0, 1, 1, 0, 1, 0, 0]) 146 (fx40_17 n1) [(4, .string s0), (6, .int .i64 0)] mx40_17 mr40_17 0 kx kr) .pl w := by
  refine loop_i mixed m40_17 s40_17 (by kernel_rfl) (by kernel_rfl)
    (fun (v : ByteArray × Int × Unit) w' => 0 ≤ v.2.1 ∧ v.2.1 ≤ n ∧ Ch No w w' ∧ ∃ t0, v.1.data.toList = s0.data.toList ++ t0 ∧ t0.length ≤ 11 * v.2.1.toNat ∧ keepText keep = (keepText (keep.drop v.2.1.toNat)).map (t0 ++ ·)) (fun (v : ByteArray × Int × Unit) _ => n - v.2.1.toNat) (s0, 0, ()) rfl ⟨by simp, by simp, Ch.refl _ _, [], by simp, by simp, by simp⟩ ?_
  rintro ⟨(s : ByteArray), (i : Int), ⟨⟩⟩ g w1 ⟨(i0 : 0 ≤ i), (i1 : i ≤ n), h1, t0, (hs0 : s.data.toList = s0.data.toList ++ t0), (hl : t0.length ≤ 11 * i.toNat), (hkt : keepText keep = (keepText (keep.drop i.toNat)).map (t0 ++ ·))⟩
  rw [t40_17]
  have hlen := hk.1
  have hsz : s.size = s0.size + t0.length := by rw [ba_size, hs0, List.length_append]; rfl
  have b1 := hb1.ch h1 (fun h => h)
  refine ld_sl (b1.cell 3) (br_both (fun e => ?_) fun e => ?_)
  · have hi : i < n := lt_t e
    obtain ⟨x, hx'⟩ : ∃ u, keep[i.toNat]? = some u := ⟨_, List.getElem?_eq_getElem (by omega)⟩
    obtain ⟨hlt, hxe⟩ := List.getElem?_eq_some_iff.1 hx'
    have hdr : keep.drop i.toNat = x :: keep.drop (i.toNat + 1) := by rw [List.drop_eq_getElem_cons hlt, hxe]
    rw [hdr, keep_cons] at hkt
    obtain ⟨g1, o1, rfl, hc⟩ := (hk.no h1).2 (by omega)
    refine ld_sl (b1.cell 3) (ix_i i0 hi ?_)
    rw [addr_add, Nat.mul_one]
    refine ld_int (hc _ _ hx') (cl_i (rsigned_any x w1) ?_)
    rintro e w2 ⟨rfl, rfl⟩
    refine ⟨_, rfl, br_both (fun e => ?_) fun e => ?_⟩
    · have hw : ¬ Within x := fun h => by rw [decide_eq_true h] at e; cases e
      rw [if_neg hw] at hkt
      exact ⟨(bytesL [], false, ()), rfl, fun g => hr g w2 hkt h1⟩
    · have hw : Within x := Decidable.byContradiction fun h => by rw [decide_eq_false h] at e; cases e
      rw [if_pos hw] at hkt
      have hw' := hw
      unfold Within at hw'
      refine nd_i (decide_eq_true (by rw [tb_size [32]]; simp only [List.length_cons, List.length_nil]; omega)) (ld_sl (b1.cell 3) (ix_i i0 hi ?_))
      rw [addr_add, Nat.mul_one]
      refine ld_int (hc _ _ hx') (cl_i (itoa_any x (by omega) (by omega) w2 (G.ch h1 (fun _ _ h => h))) ?_)
      rintro e w3 ⟨rfl, h3⟩
      have hil := itoa_len hw
      have hz1 : (s ++ bytesL [32]).size = s.size + 1 := by rw [ByteArray.size_append, tb_size [32]]; rfl
      refine ⟨_, rfl, nd_i (decide_eq_true (by rw [hz1, tb_size (Lib.itoa x)]; omega)) ?_⟩
      refine ⟨(s ++ bytesL [32] ++ bytesL (Lib.itoa x), i + 1, ()), ?_, ⟨by dsimp only; omega, by dsimp only; omega, h1.trans h3, t0 ++ 32 :: Lib.itoa x, ?_, ?_, ?_⟩, by dsimp only; omega⟩
      · rw [wrap_succ i0 (by omega)]; rfl
      · dsimp only
        rw [ba_app, ba_app, hs0, tb_data, tb_data, List.append_assoc, List.append_assoc]; rfl
      · dsimp only
        rw [show (i + 1).toNat = i.toNat + 1 by omega, List.length_append, List.length_cons]; omega
      · dsimp only
        rw [show (i + 1).toNat = i.toNat + 1 by omega, hkt]
        cases keepText (keep.drop (i.toNat + 1)) with
        | none => rfl
        | some t => simp
  · have hi : (n : Int) ≤ i := lt_f e
    rw [List.drop_of_length_le (by omega)] at hkt
    have hkt : keepText keep = some t0 := by rw [hkt]; simp [keepText]
    exact ⟨rfl, (s, ()), rfl, fun g => hx t0 s g w1 hkt hs0 (by omega) h1⟩
set_option maxHeartbeats 1000000 in
theorem rkeep_loop_29 {R : Ending → World → Prop} {Q : Exit → List (Tmp × Value) → World → Prop} {w : World} {kx : MVars mx40_29 → (Nat → Value) → T} {kr : MVars mr40_29 → (Nat → Value) → T} (kd a b : Int) (p : Option Addr) (n c n1 : Nat) (keep : List Int) (s0 : ByteArray) (hb1 : Blk w n1 (opCells kd a b p n c) tOp) (hk : AtI w p n keep) (hn : n ≤ 2000000) (hs : s0.size ≤ 1000) (G : Glob w)
    (hx : ∀ t s g w', keepText keep = some t → s.data.toList = s0.data.toList ++ t → s.size ≤ 1000 + 11 * n → Ch No w w' → wpT Tryz.prog R Q (kx (s, ()) g) .pl w')
    (hr : ∀ g w', keepText keep = none → Ch No w w' → wpT Tryz.prog R Q (kr (bytesL [], false, ()) g) .pl w') :
    wpT Tryz.prog R Q (.loop (at_ Tryz.f40 [1, 1, 1, 0, 1, 0, 1, 1, 0, 1, 0, 0]) 146 (fx40_29 n1) [(4, .string s0), (6, .int .i64 0)] mx40_29 mr40_29 0 kx kr) .pl w := by
  refine loop_i mixed m40_29 s40_29 (by kernel_rfl) (by kernel_rfl)
    (fun (v : ByteArray × Int × Unit) w' => 0 ≤ v.2.1 ∧ v.2.1 ≤ n ∧ Ch No w w' ∧ ∃ t0, v.1.data.toList = s0.data.toList ++ t0 ∧ t0.length ≤ 11 * v.2.1.toNat ∧ keepText keep = (keepText (keep.drop v.2.1.toNat)).map (t0 ++ ·)) (fun (v : ByteArray × Int × Unit) _ => n - v.2.1.toNat) (s0, 0, ()) rfl ⟨by simp, by simp, Ch.refl _ _, [], by simp, by simp, by simp⟩ ?_
  rintro ⟨(s : ByteArray), (i : Int), ⟨⟩⟩ g w1 ⟨(i0 : 0 ≤ i), (i1 : i ≤ n), h1, t0, (hs0 : s.data.toList = s0.data.toList ++ t0), (hl : t0.length ≤ 11 * i.toNat), (hkt : keepText keep = (keepText (keep.drop i.toNat)).map (t0 ++ ·))⟩
  rw [t40_29]
  have hlen := hk.1
  have hsz : s.size = s0.size + t0.length := by rw [ba_size, hs0, List.length_append]; rfl
  have b1 := hb1.ch h1 (fun h => h)
  refine ld_sl (b1.cell 3) (br_both (fun e => ?_) fun e => ?_)
  · have hi : i < n := lt_t e
    obtain ⟨x, hx'⟩ : ∃ u, keep[i.toNat]? = some u := ⟨_, List.getElem?_eq_getElem (by omega)⟩
    obtain ⟨hlt, hxe⟩ := List.getElem?_eq_some_iff.1 hx'
    have hdr : keep.drop i.toNat = x :: keep.drop (i.toNat + 1) := by rw [List.drop_eq_getElem_cons hlt, hxe]
    rw [hdr, keep_cons] at hkt
    obtain ⟨g1, o1, rfl, hc⟩ := (hk.no h1).2 (by omega)
    refine ld_sl (b1.cell 3) (ix_i i0 hi ?_)
    rw [addr_add, Nat.mul_one]
    refine ld_int (hc _ _ hx') (cl_i (rsigned_any x w1) ?_)
    rintro e w2 ⟨rfl, rfl⟩
    refine ⟨_, rfl, br_both (fun e => ?_) fun e => ?_⟩
    · have hw : ¬ Within x := fun h => by rw [decide_eq_true h] at e; cases e
      rw [if_neg hw] at hkt
      exact ⟨(bytesL [], false, ()), rfl, fun g => hr g w2 hkt h1⟩
    · have hw : Within x := Decidable.byContradiction fun h => by rw [decide_eq_false h] at e; cases e
      rw [if_pos hw] at hkt
      have hw' := hw
      unfold Within at hw'
      refine nd_i (decide_eq_true (by rw [tb_size [32]]; simp only [List.length_cons, List.length_nil]; omega)) (ld_sl (b1.cell 3) (ix_i i0 hi ?_))
      rw [addr_add, Nat.mul_one]
      refine ld_int (hc _ _ hx') (cl_i (itoa_any x (by omega) (by omega) w2 (G.ch h1 (fun _ _ h => h))) ?_)
      rintro e w3 ⟨rfl, h3⟩
      have hil := itoa_len hw
      have hz1 : (s ++ bytesL [32]).size = s.size + 1 := by rw [ByteArray.size_append, tb_size [32]]; rfl
      refine ⟨_, rfl, nd_i (decide_eq_true (by rw [hz1, tb_size (Lib.itoa x)]; omega)) ?_⟩
      refine ⟨(s ++ bytesL [32] ++ bytesL (Lib.itoa x), i + 1, ()), ?_, ⟨by dsimp only; omega, by dsimp only; omega, h1.trans h3, t0 ++ 32 :: Lib.itoa x, ?_, ?_, ?_⟩, by dsimp only; omega⟩
      · rw [wrap_succ i0 (by omega)]; rfl
      · dsimp only
        rw [ba_app, ba_app, hs0, tb_data, tb_data, List.append_assoc, List.append_assoc]; rfl
      · dsimp only
        rw [show (i + 1).toNat = i.toNat + 1 by omega, List.length_append, List.length_cons]; omega
      · dsimp only
        rw [show (i + 1).toNat = i.toNat + 1 by omega, hkt]
        cases keepText (keep.drop (i.toNat + 1)) with
        | none => rfl
        | some t => simp
  · have hi : (n : Int) ≤ i := lt_f e
    rw [List.drop_of_length_le (by omega)] at hkt
    have hkt : keepText keep = some t0 := by rw [hkt]; simp [keepText]
    exact ⟨rfl, (s, ()), rfl, fun g => hx t0 s g w1 hkt hs0 (by omega) h1⟩
set_option maxHeartbeats 1000000 in
theorem rwritten_any (o : OpM) (p : Option Addr) (n c : Nat) (w : World) (hk : AtI w p n o.keep) (hn : n ≤ 2000000) (G : Glob w) :
    Calls Tryz.prog 40 #[opVal o.kind o.a o.b p n c] w (StepRes o w) := by
  obtain ⟨kd, a, b, keep⟩ := o
  unfold opVal
  refine calls_of_fnT mixed Tryz.func40 (s := s40) ?_
  rw [t40]
  dsimp only at hk ⊢
  have hlen := hk.1
  refine nw fun w1 h1 z1 b1 => ?_
  have G1 := G.ch h1 (fun _ _ h => h)
  have hk1 := hk.no h1
  refine ld_int (b1.cell 0) (cl_i (rplain_any kd w1) ?_)
  rintro e w2 ⟨rfl, rfl⟩
  refine ⟨(bytesL (if 1 ≤ kd ∧ kd ≤ 9 then stepWord kd.toNat else []), (if 1 ≤ kd ∧ kd ≤ 9 then numbersM kd.toNat else 0), ()), rfl, ?_⟩
  refine cut_i mixed s40_4 (fun (v : Bool × Unit) w' => w' = w2 ∧ (v.1 = true ↔ (¬ (1 ≤ kd ∧ kd ≤ 9)) ∨ (keep ≠ [] ∧ kd ≠ 9))) (by kernel_rfl) (fun g => ?_) ?_
  · rw [t40_4]
    dsimp only
    rw [tb_list, tb_list]
    by_cases hkd : 1 ≤ kd ∧ kd ≤ 9
    · rw [if_pos hkd]
      have hne : (stepWord kd.toNat == ([] : List UInt8)) = false := by
        have := (words_ok ⟨kd.toNat, by omega⟩ (by show 1 ≤ kd.toNat; omega)).1.1
        exact beq_eq_false_iff_ne.2 this
      refine br_false hne (ld_sl (b1.cell 3) (br_both (fun e => ?_) fun e => ?_))
      · have e : (0 : Int) < (n : Int) := gt_t e
        refine ld_int (b1.cell 0) ⟨rfl, (_, ()), rfl, rfl, ?_⟩
        refine ⟨fun h => .inr ⟨fun hn => by rw [hn] at hlen; simp at hlen; omega, ne_t h⟩, fun h => ?_⟩
        rcases h with h | h
        · exact absurd hkd h
        · exact bne_iff_ne.2 h.2
      · have e : (n : Int) ≤ (0 : Int) := gt_f e
        refine ⟨rfl, (_, ()), rfl, rfl, ⟨(fun h => by cases h), fun h => ?_⟩⟩
        rcases h with h | h
        · exact absurd hkd h
        · exact absurd (List.eq_nil_of_length_eq_zero (by omega)) h.1
    · rw [if_neg hkd]
      exact br_true rfl ⟨rfl, (_, ()), rfl, rfl, ⟨fun _ => .inl hkd, fun _ => rfl⟩⟩
  rintro ⟨v, ⟨⟩⟩ g w3 ⟨rfl, hv⟩
  dsimp only at hv
  refine br_both (fun e => ?_) fun e => ?_
  · refine stepRes_none ?_ h1
    unfold stepLineM
    dsimp only
    rcases hv.1 e with h | h
    · rw [if_pos (by omega)]
    · by_cases hkd : kd < 1 ∨ 9 < kd
      · rw [if_pos hkd]
      · rw [if_neg hkd, if_neg h.2, if_pos h.1]
  have hkd : 1 ≤ kd ∧ kd ≤ 9 := Decidable.byContradiction fun h => by rw [hv.2 (.inl h)] at e; cases e
  have hk9 : kd ≠ 9 → keep = [] := fun h9 => Decidable.byContradiction fun h => by rw [hv.2 (.inr ⟨h, h9⟩)] at e; cases e
  clear hv e
  rw [if_pos hkd, if_pos hkd]
  obtain ⟨k, rfl⟩ : ∃ k : Nat, kd = k := ⟨kd.toNat, by omega⟩
  rw [Int.toNat_natCast]
  have hm : stepLineM ⟨k, a, b, keep⟩ = (if (k : Int) = 9 then
    if a < 0 ∨ 1000000000 < a ∨ b ≠ 0 then none
    else match keepText keep with
      | none => none
      | some t => some (stepWord 9 ++ (armText a ++ t))
  else if keep ≠ [] then none
  else if (k : Int) = 7 then
    if ¬ Within a ∨ ¬ Within b then none
    else some (stepWord 7 ++ (32 :: (Lib.itoa a ++ afterText b)))
  else if (numbersM k ≤ 0 ∧ a ≠ 0) ∨ ¬ Within a ∨ (numbersM k ≤ 1 ∧ b ≠ 0) ∨ ¬ Within b then none
  else some (stepWord k ++ (numText (decide (0 < numbersM k)) a ++ numText (decide (1 < numbersM k)) b))) := by
    unfold stepLineM
    dsimp only
    rw [if_neg (show ¬ ((k : Int) < 1 ∨ 9 < (k : Int)) by omega), Int.toNat_natCast]
    rfl
  obtain ⟨hsw, hwl⟩ := step_word k (by omega) (by omega)
  refine ld_int (b1.cell 0) (br_both (fun e9 => ?_) fun e9 => ?_)
  · have h9 : k = 9 := by have : (k : Int) = 9 := eq_t e9; omega
    subst h9
    rw [if_pos (by rfl)] at hm
    refine cut_i mixed s40_9 (fun (v : Bool × Unit) w' => w' = w3 ∧ v.1 = decide (a < 0 ∨ 1000000000 < a ∨ b ≠ 0)) (by kernel_rfl) (fun g => ?_) ?_
    · rw [t40_9]
      refine ld_int (b1.cell 1) (br_both (fun e => ⟨rfl, (_, ()), rfl, rfl, ?_⟩) fun e => ld_int (b1.cell 1) (br_both (fun e2 => ⟨rfl, (_, ()), rfl, rfl, ?_⟩) fun e2 => ld_int (b1.cell 2) ⟨rfl, (_, ()), rfl, rfl, ?_⟩))
      · exact (decide_eq_true (.inl (lt_t e))).symm
      · exact (decide_eq_true (.inr (.inl (gt_t e2)))).symm
      · have e := lt_f e
        have e2 := gt_f e2
        by_cases hb : b = 0
        · subst hb; rw [decide_eq_false (by omega)]; rfl
        · rw [decide_eq_true (by omega)]; exact bne_iff_ne.2 hb
    rintro ⟨v, ⟨⟩⟩ g w6 ⟨rfl, hv⟩
    dsimp only at hv
    subst hv
    refine br_both (fun e => ?_) fun e => ?_
    · rw [if_pos (of_decide_eq_true e)] at hm
      exact stepRes_none hm h1
    have e := of_decide_eq_false e
    rw [if_neg e] at hm
    have hz0 : (bytesL (stepWord 9)).size = 7 := by rw [tb_size]; rfl
    refine ld_int (b1.cell 1) (br_both (fun ea => ?_) fun ea => ?_)
    · have ea : 0 < a := gt_t ea
      refine nd_i (decide_eq_true (by rw [tb_size, tb_size]; simp only [List.length_cons, List.length_nil]; omega)) (ld_int (b1.cell 1) ?_)
      rw [wrap_in (x := a - 1) (by omega) (by omega)]
      refine cl_i (itoa_any (a - 1) (by omega) (by omega) w6 G1) ?_
      rintro e' w7 ⟨rfl, h7⟩
      have hil := itoa_len_nat (n := a - 1) (by omega) (by omega)
      have hz1 : (bytesL (stepWord 9) ++ bytesL [32, 97, 114, 109, 32]).size = 12 := by rw [ByteArray.size_append, hz0, tb_size]; rfl
      refine ⟨_, rfl, nd_i (decide_eq_true (by dsimp only; rw [hz1, tb_size]; omega)) ?_⟩
      refine rkeep_loop_17 9 a b p n c _ keep _ (b1.ch h7 (fun h => h)) (hk1.no h7) hn (by dsimp only; rw [ByteArray.size_append, hz1, tb_size]; omega) (G1.ch h7 (fun _ _ h => h)) ?_ ?_
      · intro t s g w8 ht hs hz h8
        refine nd_i (decide_eq_true (by rw [tb_size]; show s.size + 1 ≤ _; omega)) ?_
        rw [ht] at hm
        refine stepRes_some hm ((h1.trans h7).trans h8) ?_ (by dsimp only; omega)
        rw [hs, ba_app, ba_app, tb_data, tb_data, tb_data]
        unfold armText
        rw [if_pos ea]
        simp [wArm]
      · intro g w8 ht h8
        rw [ht] at hm
        exact stepRes_none hm ((h1.trans h7).trans h8)
    · have ea : a ≤ 0 := gt_f ea
      refine rkeep_loop_29 9 a b p n c _ keep _ b1 hk1 hn (by dsimp only; rw [hz0]; omega) G1 ?_ ?_
      · intro t s g w8 ht hs hz h8
        refine nd_i (decide_eq_true (by rw [tb_size]; show s.size + 1 ≤ _; omega)) ?_
        rw [ht] at hm
        refine stepRes_some hm (h1.trans h8) ?_ (by dsimp only; omega)
        rw [hs, tb_data]
        unfold armText
        rw [if_neg (by omega)]
        rfl
      · intro g w8 ht h8
        rw [ht] at hm
        exact stepRes_none hm (h1.trans h8)
  have h9 : k ≠ 9 := fun h => eq_f (a := (k : Int)) e9 (by omega)
  rw [if_neg (by omega), if_neg (fun h => h (hk9 (by omega)))] at hm
  have hm2 : ∀ i : Fin 10, 1 ≤ i.val → i.val ≠ 9 → (numbersM i.val = 0 ∨ numbersM i.val = 1 ∨ numbersM i.val = 2) ∧ (i.val = 7 → numbersM i.val = 1) := by decide
  obtain ⟨hnk, hn7⟩ := hm2 ⟨k, by omega⟩ (by show 1 ≤ k; omega) h9
  dsimp only at hnk hn7
  generalize hN : numbersM k = N at *
  refine cut_i mixed s40_41 (fun (v : Bool × Unit) w' => w' = w3 ∧ (v.1 = true ↔ ¬ Within a ∨ ¬ Within b ∨ (N < 1 ∧ a ≠ 0) ∨ (N < 2 ∧ b ≠ 0 ∧ k ≠ 7))) (by kernel_rfl) (fun g => ?_) ?_
  · rw [t40_41]
    refine ld_int (b1.cell 1) (cl_i (rsigned_any a w3) ?_)
    rintro e w4 ⟨rfl, rfl⟩
    refine ⟨_, rfl, br_both (fun e => ?_) fun e => ?_⟩
    · have hw : ¬ Within a := fun h => by rw [decide_eq_true h] at e; cases e
      exact ⟨rfl, (_, ()), rfl, rfl, ⟨fun _ => .inl hw, fun _ => rfl⟩⟩
    have hwa : Within a := Decidable.byContradiction fun h => by rw [decide_eq_false h] at e; cases e
    refine ld_int (b1.cell 2) (cl_i (rsigned_any b w4) ?_)
    rintro e w5 ⟨rfl, rfl⟩
    refine ⟨_, rfl, br_both (fun e => ?_) fun e => ?_⟩
    · have hw : ¬ Within b := fun h => by rw [decide_eq_true h] at e; cases e
      exact ⟨rfl, (_, ()), rfl, rfl, ⟨fun _ => .inr (.inl hw), fun _ => rfl⟩⟩
    have hwb : Within b := Decidable.byContradiction fun h => by rw [decide_eq_false h] at e; cases e
    have last : ∀ {f : Bool → Bool}, ((N < 1 ∧ a ≠ 0) → False) → wpT Tryz.prog (fun _ _ => False) (fun x l w' => x = .normal ∧ ∃ v : MVars mx40_41, l = mvals mx40_41 v ∧ w' = w5 ∧ (v.1 = true ↔ ¬ Within a ∨ ¬ Within b ∨ (N < 1 ∧ a ≠ 0) ∨ (N < 2 ∧ b ≠ 0 ∧ k ≠ 7)))
        (.br (decide (N < 2)) (.load ⟨w.heap.size, 2, none⟩ (.int .i64) fun x49 => .br (x49 != 0) (.load ⟨w.heap.size, 0, none⟩ (.int .i64) fun x50 => .fin .normal [(109, .bool (x50 != 7))]) (.fin .normal [(109, .bool false)])) (.fin .normal [(109, .bool false)])) .pl w5 := by
      intro f hna
      refine br_both (fun e => ?_) fun e => ?_
      · have e : N < 2 := lt_t e
        refine ld_int (b1.cell 2) (br_both (fun eb => ?_) fun eb => ?_)
        · have eb : b ≠ 0 := ne_t eb
          refine ld_int (b1.cell 0) ⟨rfl, (_, ()), rfl, rfl, ?_⟩
          refine ⟨fun h => ?_, fun h => ?_⟩
          · have h : (k : Int) ≠ 7 := ne_t h
            exact .inr (.inr (.inr ⟨e, eb, by omega⟩))
          · rcases h with h | h | h | h
            · exact absurd hwa h
            · exact absurd hwb h
            · exact (hna h).elim
            · refine bne_iff_ne.2 ?_
              show (k : Int) ≠ 7
              omega
        · have eb : b = 0 := ne_f eb
          refine ⟨rfl, (_, ()), rfl, rfl, ⟨(fun h => by cases h), fun h => ?_⟩⟩
          rcases h with h | h | h | h
          · exact absurd hwa h
          · exact absurd hwb h
          · exact (hna h).elim
          · exact absurd eb h.2.1
      · have e : 2 ≤ N := lt_f e
        refine ⟨rfl, (_, ()), rfl, rfl, ⟨(fun h => by cases h), fun h => ?_⟩⟩
        rcases h with h | h | h | h
        · exact absurd hwa h
        · exact absurd hwb h
        · exact (hna h).elim
        · omega
    refine br_both (fun e => ?_) fun e => ?_
    · have e : N < 1 := lt_t e
      refine ld_int (b1.cell 1) (br_both (fun ea => ?_) fun ea => ?_)
      · have ea : a ≠ 0 := ne_t ea
        exact ⟨rfl, (_, ()), rfl, rfl, ⟨fun _ => .inr (.inr (.inl ⟨e, ea⟩)), fun _ => rfl⟩⟩
      · have ea : a = 0 := ne_f ea
        exact last (f := id) fun h => h.2 ea
    · have e : 1 ≤ N := lt_f e
      exact last (f := id) fun h => by omega
  rintro ⟨v, ⟨⟩⟩ g w4 ⟨rfl, hv⟩
  dsimp only at hv
  refine br_both (fun e => ?_) fun e => ?_
  · refine stepRes_none ?_ h1
    have h := hv.1 e
    rw [hm]
    by_cases h7 : (k : Int) = 7
    · rw [if_pos h7, if_pos]
      rcases h with h | h | h | h
      · exact .inl h
      · exact .inr h
      · have := hn7 (by omega); omega
      · omega
    · rw [if_neg h7, if_pos]
      rcases h with h | h | h | h
      · exact .inr (.inl h)
      · exact .inr (.inr (.inr h))
      · exact .inl ⟨by omega, h.2⟩
      · exact .inr (.inr (.inl ⟨by omega, h.2.1⟩))
  have hno : ¬ (¬ Within a ∨ ¬ Within b ∨ (N < 1 ∧ a ≠ 0) ∨ (N < 2 ∧ b ≠ 0 ∧ k ≠ 7)) := fun h => by rw [hv.2 h] at e; cases e
  clear hv e
  have hwa : Within a := Decidable.byContradiction fun h => hno (.inl h)
  have hwb : Within b := Decidable.byContradiction fun h => hno (.inr (.inl h))
  have hna : N < 1 → a = 0 := fun h => Decidable.byContradiction fun h' => hno (.inr (.inr (.inl ⟨h, h'⟩)))
  have hnb : N < 2 → k ≠ 7 → b = 0 := fun h h7 => Decidable.byContradiction fun h' => hno (.inr (.inr (.inr ⟨h, h', h7⟩)))
  clear hno
  have hwa' := hwa
  have hwb' := hwb
  unfold Within at hwa' hwb'
  have hila := itoa_len hwa
  have hilb := itoa_len hwb
  refine cut_i mixed s40_52 (fun (v : Bool × Unit) w' => w' = w4 ∧ (v.1 = true ↔ k = 7 ∧ b ≠ 0)) (by kernel_rfl) (fun g => ?_) ?_
  · rw [t40_52]
    refine ld_int (b1.cell 0) (br_both (fun e => ?_) fun e => ?_)
    · have e : k = 7 := by have : (k : Int) = 7 := eq_t e; omega
      exact ld_int (b1.cell 2) ⟨rfl, (_, ()), rfl, rfl, ⟨fun h => ⟨e, ne_t h⟩, fun h => bne_iff_ne.2 h.2⟩⟩
    · have e : k ≠ 7 := fun h => eq_f (a := (k : Int)) e (by omega)
      exact ⟨rfl, (_, ()), rfl, rfl, ⟨(fun h => by cases h), fun h => absurd h.1 e⟩⟩
  rintro ⟨v, ⟨⟩⟩ g w5 ⟨rfl, hv⟩
  dsimp only at hv
  refine br_both (fun e => ?_) fun e => ?_
  · obtain ⟨rfl, hb⟩ := hv.1 e
    rw [if_pos (show ((7 : Nat) : Int) = 7 from rfl), if_neg (fun h => h.elim (fun h => h hwa) (fun h => h hwb))] at hm
    have hC : ∀ {w'}, Ch No w5 w' → Blk w' w.heap.size (opCells (7 : Nat) a b p n c) tOp := fun h => b1.ch h (fun h => h)
    refine ⟨fun w' => Ch No w5 w', (Ch.refl No w5).drew, ⟨a, fun w' hw => (hC hw).cell 1, ⟨_, fun w' hw => (itoa_any a (by omega) (by omega) w' (G1.ch hw (fun _ _ h => h))).mono fun e w2 h => ⟨h.1, hw.trans h.2⟩, ?_⟩⟩⟩
    have hz1 : (bytesL [102, 97, 105, 108, 32] ++ bytesL (Lib.itoa a)).size = 5 + (Lib.itoa a).length := by rw [ByteArray.size_append, tb_size, tb_size]; rfl
    have hz2 : (bytesL [102, 97, 105, 108, 32] ++ bytesL (Lib.itoa a) ++ bytesL [32, 97, 102, 116, 101, 114, 32]).size = 12 + (Lib.itoa a).length := by rw [ByteArray.size_append, hz1, tb_size]; simp only [List.length_cons, List.length_nil]; omega
    refine nd_i (decide_eq_true (by rw [tb_size, tb_size]; simp only [List.length_cons, List.length_nil]; omega)) (nd_i (decide_eq_true (by rw [hz1, tb_size]; simp only [List.length_cons, List.length_nil]; omega)) ?_)
    refine ⟨b, fun w' hw => (hC hw).cell 2, ⟨_, fun w' hw => (itoa_any b (by omega) (by omega) w' (G1.ch hw (fun _ _ h => h))).mono fun e w2 h => ⟨h.1, hw.trans h.2⟩, ?_⟩⟩
    have hz3 : (bytesL [102, 97, 105, 108, 32] ++ bytesL (Lib.itoa a) ++ bytesL [32, 97, 102, 116, 101, 114, 32] ++ bytesL (Lib.itoa b)).size = 12 + (Lib.itoa a).length + (Lib.itoa b).length := by rw [ByteArray.size_append, hz2, tb_size]
    refine nd_i (decide_eq_true (by rw [hz2, tb_size]; omega)) (nd_i (decide_eq_true (by rw [hz3, tb_size]; simp only [List.length_cons, List.length_nil]; omega)) fun w' hw => ?_)
    refine stepRes_some hm (h1.trans hw) ?_ (by rw [hz3]; omega)
    simp only [ba_app, tb_data]
    unfold afterText
    rw [if_pos hb]
    simp [wAfter, stepWord, stepsM]
  have hnb7 : N < 2 → b = 0 := fun h => Decidable.byContradiction fun hb => by
    by_cases h7 : k = 7
    · rw [hv.2 ⟨h7, hb⟩] at e; cases e
    · exact hb (hnb h h7)
  clear e hv
  have hm' : stepLineM ⟨k, a, b, keep⟩ = some (stepWord k ++ (numText (decide (0 < N)) a ++ numText (decide (1 < N)) b)) := by
    rw [hm]
    by_cases h7 : (k : Int) = 7
    · have hN7 := hn7 (by omega)
      have hb0 := hnb7 (by omega)
      rw [if_pos h7, if_neg (fun h => h.elim (fun h => h hwa) (fun h => h hwb)), hN7, hb0, show k = 7 by omega]
      simp [numText, afterText]
    · rw [if_neg h7, if_neg]
      intro h
      rcases h with h | h | h | h
      · exact h.2 (hna (by omega))
      · exact h hwa
      · exact h.2 (hnb7 (by omega))
      · exact h hwb
  dsimp only
  have hz0 : (bytesL (stepWord k)).size ≤ 7 := by rw [tb_size]; exact hwl
  refine br_both (fun e0 => ?_) fun e0 => ?_
  · have e0 : 0 < N := gt_t e0
    have hz1 : (bytesL (stepWord k) ++ bytesL [32]).size = (bytesL (stepWord k)).size + 1 := by rw [ByteArray.size_append, tb_size [32]]; rfl
    refine nd_i (decide_eq_true (by rw [tb_size [32]]; simp only [List.length_cons, List.length_nil]; omega)) (ld_int (b1.cell 1) (cl_i (itoa_any a (by omega) (by omega) w5 G1) ?_))
    rintro e' w6 ⟨rfl, h6⟩
    have H6 := h1.trans h6
    have b6 := b1.ch h6 (fun h => h)
    have hz2 : (bytesL (stepWord k) ++ bytesL [32] ++ bytesL (Lib.itoa a)).size = (bytesL (stepWord k)).size + 1 + (Lib.itoa a).length := by rw [ByteArray.size_append, hz1, tb_size (Lib.itoa a)]
    refine ⟨_, rfl, nd_i (decide_eq_true (by rw [hz1, tb_size (Lib.itoa a)]; omega)) (br_both (fun e2 => ?_) fun e2 => ?_)⟩
    · have e2 : 1 < N := gt_t e2
      have hz3 : (bytesL (stepWord k) ++ bytesL [32] ++ bytesL (Lib.itoa a) ++ bytesL [32]).size = (bytesL (stepWord k)).size + 2 + (Lib.itoa a).length := by rw [ByteArray.size_append, hz2, tb_size [32]]; simp only [List.length_cons, List.length_nil]; omega
      refine nd_i (decide_eq_true (by rw [hz2, tb_size [32]]; simp only [List.length_cons, List.length_nil]; omega)) (ld_int (b6.cell 2) (cl_i (itoa_any b (by omega) (by omega) w6 (G1.ch h6 (fun _ _ h => h))) ?_))
      rintro e' w7 ⟨rfl, h7⟩
      have hz4 : (bytesL (stepWord k) ++ bytesL [32] ++ bytesL (Lib.itoa a) ++ bytesL [32] ++ bytesL (Lib.itoa b)).size = (bytesL (stepWord k)).size + 2 + (Lib.itoa a).length + (Lib.itoa b).length := by rw [ByteArray.size_append, hz3, tb_size (Lib.itoa b)]
      refine ⟨_, rfl, nd_i (decide_eq_true (by rw [hz3, tb_size (Lib.itoa b)]; omega)) (nd_i (decide_eq_true (by rw [hz4, tb_size [10]]; simp only [List.length_cons, List.length_nil]; omega)) ?_)⟩
      refine stepRes_some hm' (H6.trans h7) ?_ (by rw [hz4]; omega)
      simp only [ba_app, tb_data]
      unfold numText
      rw [if_pos (decide_eq_true e0), if_pos (decide_eq_true e2)]
      simp
    · have e2 : N ≤ 1 := gt_f e2
      refine nd_i (decide_eq_true (by rw [hz2, tb_size [10]]; simp only [List.length_cons, List.length_nil]; omega)) ?_
      refine stepRes_some hm' H6 ?_ (by rw [hz2]; omega)
      simp only [ba_app, tb_data]
      unfold numText
      rw [if_pos (decide_eq_true e0), decide_eq_false (show ¬ 1 < N by omega)]
      simp
  · have e0 : N ≤ 0 := gt_f e0
    refine br_false (decide_eq_false (show ¬ (1 : Int) < N by omega)) ?_
    refine nd_i (decide_eq_true (by rw [tb_size [10]]; simp only [List.length_cons, List.length_nil]; omega)) ?_
    refine stepRes_some hm' h1 ?_ (by omega)
    unfold numText
    rw [decide_eq_false (show ¬ 0 < N by omega), decide_eq_false (show ¬ 1 < N by omega)]
    simp
end Go.Proofs.YtjlmkahagcojcaaGreatDoor
