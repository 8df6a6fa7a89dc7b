/- PlanRepeats: the walk. -/
import Derived.Test.YtnbeahfiikgkiaaDoorOpb
namespace Go.Proofs.YtnbeahfiikgkiaaDoor
open Go Tr
set_option maxRecDepth 100000
/-! the tree of function 3 -/
abbrev fx3_1 (qs0 : ByteArray) (qx1 : Int) : List (Tmp × Value) := [(0, .string qs0), (1, .int .i64 qx1)]
abbrev mx3_1 : List (Tmp × Comp) := [(25, .leaf .bool)]
def s3_1 : Script := .sym (.lit (.lit (.lit (.lit (.lit (.lit .nil)))))) (.lit (.lit (.sym (.lit (.lit (.lit .nil))) (.lit (.lit (.lit .nil))))))
theorem t3_1 (qs0 : ByteArray) (qx1 : Int) (g : Nat → Value) : pieceT Tryd.prog (at_ Tryd.f3 [1, 0, 0]) 132 (fx3_1 qs0 qx1) g (mx3_1.map (·.1)) [] [] s3_1 =
  .br (Decidable.decide (qx1 < 1))
    (.fin .normal [(25, .bool true)])
    (.br (Decidable.decide (qx1 > 2000))
      (.fin .normal [(25, .bool true)])
      (.fin .normal [(25, .bool (Decidable.decide ((↑qs0.size : Int) > 7900)))])) := by kernel_rfl
abbrev fx3_3 (g2 : Nat → Value) : List (Tmp × Value) := [(0, .string (bytesL [99, 114, 97, 115, 104])), (1, .int .i64 3), (4, g2 4)]
abbrev m3_3 : List (Tmp × Comp) := [(5, .leaf .str), (6, .leaf (.int .i64))]
abbrev mx3_3 : List (Tmp × Comp) := [(5, .leaf .str)]
abbrev mr3_3 : List (Tmp × Comp) := []
def s3_3 : Script := .sym (.nop (.nop (.nop (.nop (.nop (.rn (.one (.leaf .str)) (.nd .nil))))))) .nil
theorem t3_3 (g2 : Nat → Value) (s_5 : ByteArray) (x_6 : Int) (g : Nat → Value) : pieceT Tryd.prog (at_ Tryd.f3 [1, 1, 1, 0, 1, 0, 0]) 132 (fx3_3 g2 ++ mvals m3_3 (s_5, x_6, ())) g (m3_3.map (·.1)) (mx3_3.map (·.1)) (mr3_3.map (·.1)) s3_3 =
  .br (Decidable.decide (x_6 > 0))
    (.new (.cells #[.int .u8 (IntKind.u8.wrap (IntKind.i64.wrap (48 + x_6.tmod 10)))] 5 (0, 0)) (fun n4 =>
      .run (vNext (convert 22 9 (.slice (some ⟨n4, 0, none⟩) 1 1))) (.one (.leaf .str)) (fun s5 =>
        .need (Decidable.decide (s5.size + s_5.size ≤ 9223372036854775807))
          (.fin .normal [(5, .string (s5 ++ s_5)), (6, .int .i64 (IntKind.i64.wrap (x_6.tdiv 10)))]))))
    (.fin (.exit 0) [(5, .string s_5)]) := by kernel_rfl
abbrev fx3_8 (u6 : ByteArray × Unit) (r7 : (Option Addr × Nat × Nat) × Value × Unit) : List (Tmp × Value) := [(0, .string (bytesL [99, 114, 97, 115, 104])), (1, .int .i64 3), (5, .string u6.1), (7, .slice r7.1.1 r7.1.2.1 r7.1.2.2), (8, r7.snd.1)]
abbrev mx3_8 : List (Tmp × Comp) := [(49, .leaf .bool)]
def s3_8 : Script := .nop (.rn (.one (.leaf .bool)) (.sym (.lit (.lit (.lit .nil))) (.lit (.lit (.lit .nil)))))
theorem t3_8 (u6 : ByteArray × Unit) (r7 : (Option Addr × Nat × Nat) × Value × Unit) (g : Nat → Value) : pieceT Tryd.prog (at_ Tryd.f3 [1, 1, 1, 1, 1, 0, 0]) 132 (fx3_8 u6 r7) g (mx3_8.map (·.1)) [] [] s3_8 =
  .run (vNext (guarded .neq 25 (.tmp 43) (.const .nilIface) r7.snd.1 .nilIface)) (.one (.leaf .bool)) (fun b9 =>
    .br b9
      (.fin .normal [(49, .bool true)])
      (.fin .normal [(49, .bool ((↑r7.fst.snd.fst : Int) != 1))])) := by kernel_rfl
abbrev fx3_14 (u6 : ByteArray × Unit) (g10 : Nat → Value) (r13 : (Option Addr × Nat × Nat) × Value × Unit) : List (Tmp × Value) := [(4, g10 4), (9, .string (bytesL [114, 101, 112, 101, 97, 116, 32] ++ u6.fst ++ bytesL [10] ++ bytesL [99, 114, 97, 115, 104] ++ bytesL [10])), (10, .slice r13.1.1 r13.1.2.1 r13.1.2.2), (11, r13.snd.1)]
abbrev m3_14 : List (Tmp × Comp) := [(12, .leaf (.int .i64)), (13, .leaf (.int .i64))]
abbrev mx3_14 : List (Tmp × Comp) := [(12, .leaf (.int .i64))]
abbrev mr3_14 : List (Tmp × Comp) := []
def s3_14 : Script := .sym (.ix (.sym .nil .nil)) .nil
theorem t3_14 (u6 : ByteArray × Unit) (g10 : Nat → Value) (r13 : (Option Addr × Nat × Nat) × Value × Unit) (x_12 : Int) (x_13 : Int) (g : Nat → Value) : pieceT Tryd.prog (at_ Tryd.f3 [1, 1, 1, 1, 1, 1, 1, 1, 1, 1, 0, 1, 0, 1, 0, 1, 0, 0]) 132 (fx3_14 u6 g10 r13 ++ mvals m3_14 (x_12, x_13, ())) g (m3_14.map (·.1)) (mx3_14.map (·.1)) (mr3_14.map (·.1)) s3_14 =
  .br (Decidable.decide (x_13 < (↑(bytesL [114, 101, 112, 101, 97, 116, 32] ++ u6.fst ++ bytesL [10] ++ bytesL [99, 114, 97, 115, 104] ++ bytesL [10]).size : Int)))
    (.bidx (bytesL [114, 101, 112, 101, 97, 116, 32] ++ u6.fst ++ bytesL [10] ++ bytesL [99, 114, 97, 115, 104] ++ bytesL [10]) x_13 (fun c15 =>
      .br (c15 == 10)
        (.fin .normal [(12, .int .i64 (IntKind.i64.wrap (x_12 + 1))), (13, .int .i64 (IntKind.i64.wrap (x_13 + 1)))])
        (.fin .normal [(12, .int .i64 x_12), (13, .int .i64 (IntKind.i64.wrap (x_13 + 1)))])))
    (.fin (.exit 2) [(12, .int .i64 x_12)]) := by kernel_rfl
abbrev fx3_17 (r13 : (Option Addr × Nat × Nat) × Value × Unit) (u16 : Int × Unit) : List (Tmp × Value) := [(10, .slice r13.1.1 r13.1.2.1 r13.1.2.2), (11, r13.snd.1), (12, .int .i64 u16.1)]
abbrev mx3_17 : List (Tmp × Comp) := [(4, .leaf .bool)]
def s3_17 : Script := .sym (.lit (.lit (.cl (.one (.leaf .bool)) (.lit .nil)))) (.lit (.lit (.lit .nil)))
theorem t3_17 (r13 : (Option Addr × Nat × Nat) × Value × Unit) (u16 : Int × Unit) (g : Nat → Value) : pieceT Tryd.prog (at_ Tryd.f3 [1, 1, 1, 1, 1, 1, 1, 1, 1, 1, 0, 1, 0, 1, 1, 0]) 132 (fx3_17 r13 u16) g (mx3_17.map (·.1)) [] [] s3_17 =
  .br ((↑r13.fst.snd.fst : Int) == 0)
    (.call 5 #[r13.snd.1, .int .i64 u16.1, .int .i64 0, .int .i64 65] (.one (.leaf .bool)) (fun b18 =>
      .fin .normal [(4, .bool b18)]))
    (.fin .normal [(4, .bool false)]) := by kernel_rfl
abbrev fx3_21 (r11 : (Option Addr × Nat × Nat) × Value × Unit) (r13 : (Option Addr × Nat × Nat) × Value × Unit) : List (Tmp × Value) := [(1, .int .i64 3), (7, .slice r11.1.1 r11.1.2.1 r11.1.2.2), (10, .slice r13.1.1 r13.1.2.1 r13.1.2.2), (11, r13.snd.1)]
abbrev mx3_21 : List (Tmp × Comp) := [(107, .leaf .bool)]
def s3_21 : Script := .nop (.rn (.one (.leaf .bool)) (.sym (.lit (.lit (.lit (.lit (.lit (.lit (.lit .nil))))))) (.lit (.lit (.lit (.lit (.lit (.lit (.lit .nil)))))))))
theorem t3_21 (r11 : (Option Addr × Nat × Nat) × Value × Unit) (r13 : (Option Addr × Nat × Nat) × Value × Unit) (g : Nat → Value) : pieceT Tryd.prog (at_ Tryd.f3 [1, 1, 1, 1, 1, 1, 1, 1, 1, 1, 1, 0, 0]) 132 (fx3_21 r11 r13) g (mx3_21.map (·.1)) [] [] s3_21 =
  .run (vNext (guarded .neq 25 (.tmp 97) (.const .nilIface) r13.snd.1 .nilIface)) (.one (.leaf .bool)) (fun b22 =>
    .br b22
      (.fin .normal [(107, .bool true)])
      (.fin .normal [(107, .bool ((↑r13.fst.snd.fst : Int) != IntKind.i64.wrap (3 * (↑r11.fst.snd.fst : Int))))])) := by kernel_rfl
abbrev fx3_24 (r11 : (Option Addr × Nat × Nat) × Value × Unit) (r13 : (Option Addr × Nat × Nat) × Value × Unit) : List (Tmp × Value) := [(1, .int .i64 3), (7, .slice r11.1.1 r11.1.2.1 r11.1.2.2), (10, .slice r13.1.1 r13.1.2.1 r13.1.2.2)]
abbrev m3_24 : List (Tmp × Comp) := [(14, .leaf (.int .i64))]
abbrev mx3_24 : List (Tmp × Comp) := []
abbrev mr3_24 : List (Tmp × Comp) := [(4, .leaf .bool)]
abbrev fx3_25 (r11 : (Option Addr × Nat × Nat) × Value × Unit) (r13 : (Option Addr × Nat × Nat) × Value × Unit) (x_14 : Int) : List (Tmp × Value) := [(1, .int .i64 3), (7, .slice r11.1.1 r11.1.2.1 r11.1.2.2), (10, .slice r13.1.1 r13.1.2.1 r13.1.2.2), (14, .int .i64 x_14)]
abbrev mx3_25 : List (Tmp × Comp) := [(115, .leaf .bool)]
def s3_25 : Script := .sym (.lit (.lit (.lit .nil))) (.lit (.lit (.lit .nil)))
theorem t3_25 (r11 : (Option Addr × Nat × Nat) × Value × Unit) (r13 : (Option Addr × Nat × Nat) × Value × Unit) (x_14 : Int) (g : Nat → Value) : pieceT Tryd.prog (at_ Tryd.f3 [1, 1, 1, 1, 1, 1, 1, 1, 1, 1, 1, 1, 0, 1, 0, 0, 0, 0]) 132 (fx3_25 r11 r13 x_14) g (mx3_25.map (·.1)) [] [] s3_25 =
  .br (Decidable.decide (x_14 < 3))
    (.fin .normal [(115, .bool (Decidable.decide ((↑r11.fst.snd.fst : Int) > 0)))])
    (.fin .normal [(115, .bool false)]) := by kernel_rfl
def s3_24 : Script := .ct 1 [1, 7, 10, 14] mx3_25 (.sym (.nop (.nop (.nop (.nop (.nop (.nop (.nop (.nop (.nop (.nop (.nd (.cl (.one (.leaf .bool)) (.sym .nil .nil))))))))))))) .nil)
theorem t3_24 (r11 : (Option Addr × Nat × Nat) × Value × Unit) (r13 : (Option Addr × Nat × Nat) × Value × Unit) (x_14 : Int) (g : Nat → Value) : pieceT Tryd.prog (at_ Tryd.f3 [1, 1, 1, 1, 1, 1, 1, 1, 1, 1, 1, 1, 0, 1, 0, 0]) 132 (fx3_24 r11 r13 ++ mvals m3_24 (x_14, ())) g (m3_24.map (·.1)) (mx3_24.map (·.1)) (mr3_24.map (·.1)) s3_24 =
  .cut (at_ Tryd.f3 [1, 1, 1, 1, 1, 1, 1, 1, 1, 1, 1, 1, 0, 1, 0, 0, 0, 0]) 132 (fx3_25 r11 r13 x_14) mx3_25 (fun u26 g26 =>
    .br u26.1
      (.need (Decidable.decide (0 ≤ IntKind.i64.wrap (x_14 * (↑r11.fst.snd.fst : Int)) ∧ IntKind.i64.wrap (x_14 * (↑r11.fst.snd.fst : Int)) ≤ IntKind.i64.wrap (IntKind.i64.wrap (x_14 + 1) * (↑r11.fst.snd.fst : Int)) ∧ IntKind.i64.wrap (IntKind.i64.wrap (x_14 + 1) * (↑r11.fst.snd.fst : Int)) ≤ (↑r13.fst.snd.snd : Int)))
        (.call 6 #[.slice (if r13.fst.snd.snd = (IntKind.i64.wrap (x_14 * (↑r11.fst.snd.fst : Int))).toNat then r13.fst.fst else Option.map (fun q ↦ q.add ((IntKind.i64.wrap (x_14 * (↑r11.fst.snd.fst : Int))).toNat * 4)) r13.fst.fst) ((IntKind.i64.wrap (IntKind.i64.wrap (x_14 + 1) * (↑r11.fst.snd.fst : Int))).toNat - (IntKind.i64.wrap (x_14 * (↑r11.fst.snd.fst : Int))).toNat) (r13.fst.snd.snd - (IntKind.i64.wrap (x_14 * (↑r11.fst.snd.fst : Int))).toNat), .slice r11.1.1 r11.1.2.1 r11.1.2.2] (.one (.leaf .bool)) (fun b27 =>
          .br (!b27)
            (.fin .ret [(4, .bool false)])
            (.fin .normal [(14, .int .i64 (IntKind.i64.wrap (x_14 + 1)))]))))
      (.fin (.exit 4) [])) := by kernel_rfl
abbrev fx3_31 (qs0 : ByteArray) (qx1 : Int) (g2 : Nat → Value) : List (Tmp × Value) := [(0, .string qs0), (1, .int .i64 qx1), (4, g2 4)]
abbrev m3_31 : List (Tmp × Comp) := [(5, .leaf .str), (6, .leaf (.int .i64))]
abbrev mx3_31 : List (Tmp × Comp) := [(5, .leaf .str)]
abbrev mr3_31 : List (Tmp × Comp) := []
def s3_31 : Script := .sym (.nop (.nop (.nop (.nop (.nop (.rn (.one (.leaf .str)) (.nd .nil))))))) .nil
theorem t3_31 (qs0 : ByteArray) (qx1 : Int) (g2 : Nat → Value) (s_5 : ByteArray) (x_6 : Int) (g : Nat → Value) : pieceT Tryd.prog (at_ Tryd.f3 [1, 1, 1, 0, 1, 0, 0]) 132 (fx3_31 qs0 qx1 g2 ++ mvals m3_31 (s_5, x_6, ())) g (m3_31.map (·.1)) (mx3_31.map (·.1)) (mr3_31.map (·.1)) s3_31 =
  .br (Decidable.decide (x_6 > 0))
    (.new (.cells #[.int .u8 (IntKind.u8.wrap (IntKind.i64.wrap (48 + x_6.tmod 10)))] 5 (0, 0)) (fun n32 =>
      .run (vNext (convert 22 9 (.slice (some ⟨n32, 0, none⟩) 1 1))) (.one (.leaf .str)) (fun s33 =>
        .need (Decidable.decide (s33.size + s_5.size ≤ 9223372036854775807))
          (.fin .normal [(5, .string (s33 ++ s_5)), (6, .int .i64 (IntKind.i64.wrap (x_6.tdiv 10)))]))))
    (.fin (.exit 0) [(5, .string s_5)]) := by kernel_rfl
abbrev fx3_36 (qs0 : ByteArray) (qx1 : Int) (u34 : ByteArray × Unit) (r35 : (Option Addr × Nat × Nat) × Value × Unit) : List (Tmp × Value) := [(0, .string qs0), (1, .int .i64 qx1), (5, .string u34.1), (7, .slice r35.1.1 r35.1.2.1 r35.1.2.2), (8, r35.snd.1)]
abbrev mx3_36 : List (Tmp × Comp) := [(49, .leaf .bool)]
def s3_36 : Script := .nop (.rn (.one (.leaf .bool)) (.sym (.lit (.lit (.lit .nil))) (.lit (.lit (.lit .nil)))))
theorem t3_36 (qs0 : ByteArray) (qx1 : Int) (u34 : ByteArray × Unit) (r35 : (Option Addr × Nat × Nat) × Value × Unit) (g : Nat → Value) : pieceT Tryd.prog (at_ Tryd.f3 [1, 1, 1, 1, 1, 0, 0]) 132 (fx3_36 qs0 qx1 u34 r35) g (mx3_36.map (·.1)) [] [] s3_36 =
  .run (vNext (guarded .neq 25 (.tmp 43) (.const .nilIface) r35.snd.1 .nilIface)) (.one (.leaf .bool)) (fun b37 =>
    .br b37
      (.fin .normal [(49, .bool true)])
      (.fin .normal [(49, .bool ((↑r35.fst.snd.fst : Int) != 1))])) := by kernel_rfl
abbrev fx3_42 (qs0 : ByteArray) (u34 : ByteArray × Unit) (g38 : Nat → Value) (r41 : (Option Addr × Nat × Nat) × Value × Unit) : List (Tmp × Value) := [(4, g38 4), (9, .string (bytesL [114, 101, 112, 101, 97, 116, 32] ++ u34.fst ++ bytesL [10] ++ qs0 ++ bytesL [10])), (10, .slice r41.1.1 r41.1.2.1 r41.1.2.2), (11, r41.snd.1)]
abbrev m3_42 : List (Tmp × Comp) := [(12, .leaf (.int .i64)), (13, .leaf (.int .i64))]
abbrev mx3_42 : List (Tmp × Comp) := [(12, .leaf (.int .i64))]
abbrev mr3_42 : List (Tmp × Comp) := []
def s3_42 : Script := .sym (.ix (.sym .nil .nil)) .nil
theorem t3_42 (qs0 : ByteArray) (u34 : ByteArray × Unit) (g38 : Nat → Value) (r41 : (Option Addr × Nat × Nat) × Value × Unit) (x_12 : Int) (x_13 : Int) (g : Nat → Value) : pieceT Tryd.prog (at_ Tryd.f3 [1, 1, 1, 1, 1, 1, 1, 1, 1, 1, 0, 1, 0, 1, 0, 1, 0, 0]) 132 (fx3_42 qs0 u34 g38 r41 ++ mvals m3_42 (x_12, x_13, ())) g (m3_42.map (·.1)) (mx3_42.map (·.1)) (mr3_42.map (·.1)) s3_42 =
  .br (Decidable.decide (x_13 < (↑(bytesL [114, 101, 112, 101, 97, 116, 32] ++ u34.fst ++ bytesL [10] ++ qs0 ++ bytesL [10]).size : Int)))
    (.bidx (bytesL [114, 101, 112, 101, 97, 116, 32] ++ u34.fst ++ bytesL [10] ++ qs0 ++ bytesL [10]) x_13 (fun c43 =>
      .br (c43 == 10)
        (.fin .normal [(12, .int .i64 (IntKind.i64.wrap (x_12 + 1))), (13, .int .i64 (IntKind.i64.wrap (x_13 + 1)))])
        (.fin .normal [(12, .int .i64 x_12), (13, .int .i64 (IntKind.i64.wrap (x_13 + 1)))])))
    (.fin (.exit 2) [(12, .int .i64 x_12)]) := by kernel_rfl
abbrev fx3_45 (r41 : (Option Addr × Nat × Nat) × Value × Unit) (u44 : Int × Unit) : List (Tmp × Value) := [(10, .slice r41.1.1 r41.1.2.1 r41.1.2.2), (11, r41.snd.1), (12, .int .i64 u44.1)]
abbrev mx3_45 : List (Tmp × Comp) := [(4, .leaf .bool)]
def s3_45 : Script := .sym (.lit (.lit (.cl (.one (.leaf .bool)) (.lit .nil)))) (.lit (.lit (.lit .nil)))
theorem t3_45 (r41 : (Option Addr × Nat × Nat) × Value × Unit) (u44 : Int × Unit) (g : Nat → Value) : pieceT Tryd.prog (at_ Tryd.f3 [1, 1, 1, 1, 1, 1, 1, 1, 1, 1, 0, 1, 0, 1, 1, 0]) 132 (fx3_45 r41 u44) g (mx3_45.map (·.1)) [] [] s3_45 =
  .br ((↑r41.fst.snd.fst : Int) == 0)
    (.call 5 #[r41.snd.1, .int .i64 u44.1, .int .i64 0, .int .i64 65] (.one (.leaf .bool)) (fun b46 =>
      .fin .normal [(4, .bool b46)]))
    (.fin .normal [(4, .bool false)]) := by kernel_rfl
abbrev fx3_49 (qx1 : Int) (r39 : (Option Addr × Nat × Nat) × Value × Unit) (r41 : (Option Addr × Nat × Nat) × Value × Unit) : List (Tmp × Value) := [(1, .int .i64 qx1), (7, .slice r39.1.1 r39.1.2.1 r39.1.2.2), (10, .slice r41.1.1 r41.1.2.1 r41.1.2.2), (11, r41.snd.1)]
abbrev mx3_49 : List (Tmp × Comp) := [(107, .leaf .bool)]
def s3_49 : Script := .nop (.rn (.one (.leaf .bool)) (.sym (.lit (.lit (.lit (.lit (.lit (.lit (.lit .nil))))))) (.lit (.lit (.lit (.lit (.lit (.lit (.lit .nil)))))))))
theorem t3_49 (qx1 : Int) (r39 : (Option Addr × Nat × Nat) × Value × Unit) (r41 : (Option Addr × Nat × Nat) × Value × Unit) (g : Nat → Value) : pieceT Tryd.prog (at_ Tryd.f3 [1, 1, 1, 1, 1, 1, 1, 1, 1, 1, 1, 0, 0]) 132 (fx3_49 qx1 r39 r41) g (mx3_49.map (·.1)) [] [] s3_49 =
  .run (vNext (guarded .neq 25 (.tmp 97) (.const .nilIface) r41.snd.1 .nilIface)) (.one (.leaf .bool)) (fun b50 =>
    .br b50
      (.fin .normal [(107, .bool true)])
      (.fin .normal [(107, .bool ((↑r41.fst.snd.fst : Int) != IntKind.i64.wrap (qx1 * (↑r39.fst.snd.fst : Int))))])) := by kernel_rfl
abbrev fx3_52 (qx1 : Int) (r39 : (Option Addr × Nat × Nat) × Value × Unit) (r41 : (Option Addr × Nat × Nat) × Value × Unit) : List (Tmp × Value) := [(1, .int .i64 qx1), (7, .slice r39.1.1 r39.1.2.1 r39.1.2.2), (10, .slice r41.1.1 r41.1.2.1 r41.1.2.2)]
abbrev m3_52 : List (Tmp × Comp) := [(14, .leaf (.int .i64))]
abbrev mx3_52 : List (Tmp × Comp) := []
abbrev mr3_52 : List (Tmp × Comp) := [(4, .leaf .bool)]
abbrev fx3_53 (qx1 : Int) (r39 : (Option Addr × Nat × Nat) × Value × Unit) (r41 : (Option Addr × Nat × Nat) × Value × Unit) (x_14 : Int) : List (Tmp × Value) := [(1, .int .i64 qx1), (7, .slice r39.1.1 r39.1.2.1 r39.1.2.2), (10, .slice r41.1.1 r41.1.2.1 r41.1.2.2), (14, .int .i64 x_14)]
abbrev mx3_53 : List (Tmp × Comp) := [(115, .leaf .bool)]
def s3_53 : Script := .sym (.lit (.lit (.lit .nil))) (.lit (.lit (.lit .nil)))
theorem t3_53 (qx1 : Int) (r39 : (Option Addr × Nat × Nat) × Value × Unit) (r41 : (Option Addr × Nat × Nat) × Value × Unit) (x_14 : Int) (g : Nat → Value) : pieceT Tryd.prog (at_ Tryd.f3 [1, 1, 1, 1, 1, 1, 1, 1, 1, 1, 1, 1, 0, 1, 0, 0, 0, 0]) 132 (fx3_53 qx1 r39 r41 x_14) g (mx3_53.map (·.1)) [] [] s3_53 =
  .br (Decidable.decide (x_14 < qx1))
    (.fin .normal [(115, .bool (Decidable.decide ((↑r39.fst.snd.fst : Int) > 0)))])
    (.fin .normal [(115, .bool false)]) := by kernel_rfl
def s3_52 : Script := .ct 1 [1, 7, 10, 14] mx3_53 (.sym (.nop (.nop (.nop (.nop (.nop (.nop (.nop (.nop (.nop (.nop (.nd (.cl (.one (.leaf .bool)) (.sym .nil .nil))))))))))))) .nil)
theorem t3_52 (qx1 : Int) (r39 : (Option Addr × Nat × Nat) × Value × Unit) (r41 : (Option Addr × Nat × Nat) × Value × Unit) (x_14 : Int) (g : Nat → Value) : pieceT Tryd.prog (at_ Tryd.f3 [1, 1, 1, 1, 1, 1, 1, 1, 1, 1, 1, 1, 0, 1, 0, 0]) 132 (fx3_52 qx1 r39 r41 ++ mvals m3_52 (x_14, ())) g (m3_52.map (·.1)) (mx3_52.map (·.1)) (mr3_52.map (·.1)) s3_52 =
  .cut (at_ Tryd.f3 [1, 1, 1, 1, 1, 1, 1, 1, 1, 1, 1, 1, 0, 1, 0, 0, 0, 0]) 132 (fx3_53 qx1 r39 r41 x_14) mx3_53 (fun u54 g54 =>
    .br u54.1
      (.need (Decidable.decide (0 ≤ IntKind.i64.wrap (x_14 * (↑r39.fst.snd.fst : Int)) ∧ IntKind.i64.wrap (x_14 * (↑r39.fst.snd.fst : Int)) ≤ IntKind.i64.wrap (IntKind.i64.wrap (x_14 + 1) * (↑r39.fst.snd.fst : Int)) ∧ IntKind.i64.wrap (IntKind.i64.wrap (x_14 + 1) * (↑r39.fst.snd.fst : Int)) ≤ (↑r41.fst.snd.snd : Int)))
        (.call 6 #[.slice (if r41.fst.snd.snd = (IntKind.i64.wrap (x_14 * (↑r39.fst.snd.fst : Int))).toNat then r41.fst.fst else Option.map (fun q ↦ q.add ((IntKind.i64.wrap (x_14 * (↑r39.fst.snd.fst : Int))).toNat * 4)) r41.fst.fst) ((IntKind.i64.wrap (IntKind.i64.wrap (x_14 + 1) * (↑r39.fst.snd.fst : Int))).toNat - (IntKind.i64.wrap (x_14 * (↑r39.fst.snd.fst : Int))).toNat) (r41.fst.snd.snd - (IntKind.i64.wrap (x_14 * (↑r39.fst.snd.fst : Int))).toNat), .slice r39.1.1 r39.1.2.1 r39.1.2.2] (.one (.leaf .bool)) (fun b55 =>
          .br (!b55)
            (.fin .ret [(4, .bool false)])
            (.fin .normal [(14, .int .i64 (IntKind.i64.wrap (x_14 + 1)))]))))
      (.fin (.exit 4) [])) := by kernel_rfl
def s3 : Script := .ct 2 [0, 1] mx3_1 (.sym (.lp 0 [0, 1, 4] [5, 6] mx3_3 mr3_3 (.cl (.tup [.leaf .sl, .leaf .any]) (.ct 1 [0, 1, 5, 7, 8] mx3_8 (.sym .nil (.cl (.tup [.leaf .sl, .leaf .any]) (.nop (.nop (.nop (.nop (.nop (.nop (.rn (.one (.leaf .bool)) (.sym .nil (.nd (.nd (.nd (.nd (.nd (.cl (.tup [.leaf .sl, .leaf .any]) (.sym (.lp 2 [4, 9, 10, 11] [12, 13] mx3_14 mr3_14 (.ct 0 [10, 11, 12] mx3_17 .nil) .nil) (.ct 1 [1, 7, 10, 11] mx3_21 (.sym .nil (.lp 4 [1, 7, 10] [14] mx3_24 mr3_24 .nil .nil)))))))))))))))))))))) .nil) (.lp 0 [0, 1, 4] [5, 6] mx3_31 mr3_31 (.cl (.tup [.leaf .sl, .leaf .any]) (.ct 1 [0, 1, 5, 7, 8] mx3_36 (.sym .nil (.cl (.tup [.leaf .sl, .leaf .any]) (.nop (.nop (.nop (.nop (.nop (.nop (.rn (.one (.leaf .bool)) (.sym .nil (.nd (.nd (.nd (.nd (.nd (.cl (.tup [.leaf .sl, .leaf .any]) (.sym (.lp 2 [4, 9, 10, 11] [12, 13] mx3_42 mr3_42 (.ct 0 [10, 11, 12] mx3_45 .nil) .nil) (.ct 1 [1, 7, 10, 11] mx3_49 (.sym .nil (.lp 4 [1, 7, 10] [14] mx3_52 mr3_52 .nil .nil)))))))))))))))))))))) .nil))
theorem t3 (qs0 : ByteArray) (qx1 : Int) : fnT Tryd.prog Tryd.f3 #[.string qs0, .int .i64 qx1] s3 =
  .cut (at_ Tryd.f3 [1, 0, 0]) 132 (fx3_1 qs0 qx1) mx3_1 (fun u2 g2 =>
    .br u2.1
      (.loop (at_ Tryd.f3 [1, 1, 1, 0, 1, 0, 0]) 132 (fx3_3 g2) [(5, .string (bytesL [])), (6, .int .i64 3)] mx3_3 mr3_3 0 (fun u6 g6 =>
        .call 4 #[.string (bytesL [112, 111, 115, 116])] (.tup [.leaf .sl, .leaf .any]) (fun r7 =>
          .cut (at_ Tryd.f3 [1, 1, 1, 1, 1, 0, 0]) 132 (fx3_8 u6 r7) mx3_8 (fun u10 g10 =>
            .br u10.1
              (.done (.returned (.bool false)))
              (.call 4 #[.string (bytesL [99, 114, 97, 115, 104])] (.tup [.leaf .sl, .leaf .any]) (fun r11 =>
                .run (vNext (guarded .neq 25 (.tmp 55) (.const .nilIface) r11.snd.1 .nilIface)) (.one (.leaf .bool)) (fun b12 =>
                  .br b12
                    (.done (.returned (.bool ((↑r11.fst.snd.fst : Int) == 0))))
                    (.need (Decidable.decide ((bytesL [114, 101, 112, 101, 97, 116, 32]).size + u6.fst.size ≤ 9223372036854775807))
                      (.need (Decidable.decide ((bytesL [114, 101, 112, 101, 97, 116, 32] ++ u6.fst).size + (bytesL [10]).size ≤ 9223372036854775807))
                        (.need (Decidable.decide ((bytesL [114, 101, 112, 101, 97, 116, 32] ++ u6.fst ++ bytesL [10]).size + (bytesL [99, 114, 97, 115, 104]).size ≤ 9223372036854775807))
                          (.need (Decidable.decide ((bytesL [114, 101, 112, 101, 97, 116, 32] ++ u6.fst ++ bytesL [10] ++ bytesL [99, 114, 97, 115, 104]).size + (bytesL [10]).size ≤ 9223372036854775807))
                            (.need (Decidable.decide ((bytesL [114, 101, 112, 101, 97, 116, 32] ++ u6.fst ++ bytesL [10] ++ bytesL [99, 114, 97, 115, 104] ++ bytesL [10]).size + (bytesL [101, 110, 100]).size ≤ 9223372036854775807))
                              (.call 4 #[.string (bytesL [114, 101, 112, 101, 97, 116, 32] ++ u6.fst ++ bytesL [10] ++ bytesL [99, 114, 97, 115, 104] ++ bytesL [10] ++ bytesL [101, 110, 100])] (.tup [.leaf .sl, .leaf .any]) (fun r13 =>
                                .br (Decidable.decide (IntKind.i64.wrap ((↑r11.fst.snd.fst : Int) * 3) > 2000))
                                  (.loop (at_ Tryd.f3 [1, 1, 1, 1, 1, 1, 1, 1, 1, 1, 0, 1, 0, 1, 0, 1, 0, 0]) 132 (fx3_14 u6 g10 r13) [(12, .int .i64 1), (13, .int .i64 0)] mx3_14 mr3_14 2 (fun u16 g16 =>
                                    .cut (at_ Tryd.f3 [1, 1, 1, 1, 1, 1, 1, 1, 1, 1, 0, 1, 0, 1, 1, 0]) 132 (fx3_17 r13 u16) mx3_17 (fun u19 g19 =>
                                      .done (.returned (.bool u19.1)))) (fun u20 g20 =>
                                    .stuck))
                                  (.cut (at_ Tryd.f3 [1, 1, 1, 1, 1, 1, 1, 1, 1, 1, 1, 0, 0]) 132 (fx3_21 r11 r13) mx3_21 (fun u23 g23 =>
                                    .br u23.1
                                      (.done (.returned (.bool false)))
                                      (.loop (at_ Tryd.f3 [1, 1, 1, 1, 1, 1, 1, 1, 1, 1, 1, 1, 0, 1, 0, 0]) 132 (fx3_24 r11 r13) [(14, .int .i64 0)] mx3_24 mr3_24 4 (fun u28 g28 =>
                                        .done (.returned (.bool true))) (fun u29 g29 =>
                                        .done (.returned (.bool u29.1))))))))))))))))))) (fun u30 g30 =>
        .stuck))
      (.loop (at_ Tryd.f3 [1, 1, 1, 0, 1, 0, 0]) 132 (fx3_31 qs0 qx1 g2) [(5, .string (bytesL [])), (6, .int .i64 qx1)] mx3_31 mr3_31 0 (fun u34 g34 =>
        .call 4 #[.string (bytesL [112, 111, 115, 116])] (.tup [.leaf .sl, .leaf .any]) (fun r35 =>
          .cut (at_ Tryd.f3 [1, 1, 1, 1, 1, 0, 0]) 132 (fx3_36 qs0 qx1 u34 r35) mx3_36 (fun u38 g38 =>
            .br u38.1
              (.done (.returned (.bool false)))
              (.call 4 #[.string qs0] (.tup [.leaf .sl, .leaf .any]) (fun r39 =>
                .run (vNext (guarded .neq 25 (.tmp 55) (.const .nilIface) r39.snd.1 .nilIface)) (.one (.leaf .bool)) (fun b40 =>
                  .br b40
                    (.done (.returned (.bool ((↑r39.fst.snd.fst : Int) == 0))))
                    (.need (Decidable.decide ((bytesL [114, 101, 112, 101, 97, 116, 32]).size + u34.fst.size ≤ 9223372036854775807))
                      (.need (Decidable.decide ((bytesL [114, 101, 112, 101, 97, 116, 32] ++ u34.fst).size + (bytesL [10]).size ≤ 9223372036854775807))
                        (.need (Decidable.decide ((bytesL [114, 101, 112, 101, 97, 116, 32] ++ u34.fst ++ bytesL [10]).size + qs0.size ≤ 9223372036854775807))
                          (.need (Decidable.decide ((bytesL [114, 101, 112, 101, 97, 116, 32] ++ u34.fst ++ bytesL [10] ++ qs0).size + (bytesL [10]).size ≤ 9223372036854775807))
                            (.need (Decidable.decide ((bytesL [114, 101, 112, 101, 97, 116, 32] ++ u34.fst ++ bytesL [10] ++ qs0 ++ bytesL [10]).size + (bytesL [101, 110, 100]).size ≤ 9223372036854775807))
                              (.call 4 #[.string (bytesL [114, 101, 112, 101, 97, 116, 32] ++ u34.fst ++ bytesL [10] ++ qs0 ++ bytesL [10] ++ bytesL [101, 110, 100])] (.tup [.leaf .sl, .leaf .any]) (fun r41 =>
                                .br (Decidable.decide (IntKind.i64.wrap ((↑r39.fst.snd.fst : Int) * qx1) > 2000))
                                  (.loop (at_ Tryd.f3 [1, 1, 1, 1, 1, 1, 1, 1, 1, 1, 0, 1, 0, 1, 0, 1, 0, 0]) 132 (fx3_42 qs0 u34 g38 r41) [(12, .int .i64 1), (13, .int .i64 0)] mx3_42 mr3_42 2 (fun u44 g44 =>
                                    .cut (at_ Tryd.f3 [1, 1, 1, 1, 1, 1, 1, 1, 1, 1, 0, 1, 0, 1, 1, 0]) 132 (fx3_45 r41 u44) mx3_45 (fun u47 g47 =>
                                      .done (.returned (.bool u47.1)))) (fun u48 g48 =>
                                    .stuck))
                                  (.cut (at_ Tryd.f3 [1, 1, 1, 1, 1, 1, 1, 1, 1, 1, 1, 0, 0]) 132 (fx3_49 qx1 r39 r41) mx3_49 (fun u51 g51 =>
                                    .br u51.1
                                      (.done (.returned (.bool false)))
                                      (.loop (at_ Tryd.f3 [1, 1, 1, 1, 1, 1, 1, 1, 1, 1, 1, 1, 0, 1, 0, 0]) 132 (fx3_52 qx1 r39 r41) [(14, .int .i64 0)] mx3_52 mr3_52 4 (fun u56 g56 =>
                                        .done (.returned (.bool true))) (fun u57 g57 =>
                                        .done (.returned (.bool u57.1))))))))))))))))))) (fun u58 g58 =>
        .stuck))) := by kernel_rfl

/-- Lines begun, up to a place. -/
def nlM (l : List UInt8) : Nat := (l.filter (· == 10)).length
theorem nl_split (t : List UInt8) : (splitM t).length = nlM t + 1 := split_len t
theorem nl_snoc {l : List UInt8} {i : Nat} {c : UInt8} (h : l[i]? = some c) : nlM (l.take (i + 1)) = nlM (l.take i) + if c = 10 then 1 else 0 := by
  unfold nlM
  rw [List.take_add_one, h, List.filter_append, List.length_append]
  congr 1
  by_cases hc : c = 10
  · subst hc; rfl
  · rw [if_neg hc]; simp [hc]
theorem post_is : parseSc [112, 111, 115, 116] = .ok [⟨3, 0, 0, []⟩] := by rfl
theorem dig_byte (k : Nat) : IntKind.u8.wrap (IntKind.i64.wrap (48 + ((k : Nat) : Int).tmod 10)) = ((UInt8.ofNat (48 + k % 10)).toNat : Int) := by
  have h1 := dig_nat (k % 10) (Nat.mod_lt _ (by decide))
  rw [h1, IntKind.wrap_u8', Int.tmod_eq_emod_of_nonneg (Int.natCast_nonneg k), wrap_in (by omega) (by omega)]
  omega
theorem rest_any (qs0 : ByteArray) (qx1 : Int) (n : Nat) (hn : qx1 = n) (g2 : Nat → Value) (w : World) (h1 : 1 ≤ n) (h2 : n ≤ 2000) (ht : qs0.size ≤ 7900) (G : Glob w) (w0 : World) (h0 : Ch No w0 w) :
    wpT Tryd.prog (fun e w' => e = .returned (.bool true) ∧ Ch No w0 w') (fun _ _ _ => False) ((.loop (at_ Tryd.f3 [1, 1, 1, 0, 1, 0, 0]) 132 (fx3_31 qs0 qx1 g2) [(5, .string (bytesL [])), (6, .int .i64 qx1)] mx3_31 mr3_31 0 (fun u34 g34 =>
        .call 4 #[.string (bytesL [112, 111, 115, 116])] (.tup [.leaf .sl, .leaf .any]) (fun r35 =>
          .cut (at_ Tryd.f3 [1, 1, 1, 1, 1, 0, 0]) 132 (fx3_36 qs0 qx1 u34 r35) mx3_36 (fun u38 g38 =>
            .br u38.1
              (.done (.returned (.bool false)))
              (.call 4 #[.string qs0] (.tup [.leaf .sl, .leaf .any]) (fun r39 =>
                .run (vNext (guarded .neq 25 (.tmp 55) (.const .nilIface) r39.snd.1 .nilIface)) (.one (.leaf .bool)) (fun b40 =>
                  .br b40
                    (.done (.returned (.bool ((↑r39.fst.snd.fst : Int) == 0))))
                    (.need (Decidable.decide ((bytesL [114, 101, 112, 101, 97, 116, 32]).size + u34.fst.size ≤ 9223372036854775807))
                      (.need (Decidable.decide ((bytesL [114, 101, 112, 101, 97, 116, 32] ++ u34.fst).size + (bytesL [10]).size ≤ 9223372036854775807))
                        (.need (Decidable.decide ((bytesL [114, 101, 112, 101, 97, 116, 32] ++ u34.fst ++ bytesL [10]).size + qs0.size ≤ 9223372036854775807))
                          (.need (Decidable.decide ((bytesL [114, 101, 112, 101, 97, 116, 32] ++ u34.fst ++ bytesL [10] ++ qs0).size + (bytesL [10]).size ≤ 9223372036854775807))
                            (.need (Decidable.decide ((bytesL [114, 101, 112, 101, 97, 116, 32] ++ u34.fst ++ bytesL [10] ++ qs0 ++ bytesL [10]).size + (bytesL [101, 110, 100]).size ≤ 9223372036854775807))
                              (.call 4 #[.string (bytesL [114, 101, 112, 101, 97, 116, 32] ++ u34.fst ++ bytesL [10] ++ qs0 ++ bytesL [10] ++ bytesL [101, 110, 100])] (.tup [.leaf .sl, .leaf .any]) (fun r41 =>
                                .br (Decidable.decide (IntKind.i64.wrap ((↑r39.fst.snd.fst : Int) * qx1) > 2000))
                                  (.loop (at_ Tryd.f3 [1, 1, 1, 1, 1, 1, 1, 1, 1, 1, 0, 1, 0, 1, 0, 1, 0, 0]) 132 (fx3_42 qs0 u34 g38 r41) [(12, .int .i64 1), (13, .int .i64 0)] mx3_42 mr3_42 2 (fun u44 g44 =>
                                    .cut (at_ Tryd.f3 [1, 1, 1, 1, 1, 1, 1, 1, 1, 1, 0, 1, 0, 1, 1, 0]) 132 (fx3_45 r41 u44) mx3_45 (fun u47 g47 =>
                                      .done (.returned (.bool u47.1)))) (fun u48 g48 =>
                                    .stuck))
                                  (.cut (at_ Tryd.f3 [1, 1, 1, 1, 1, 1, 1, 1, 1, 1, 1, 0, 0]) 132 (fx3_49 qx1 r39 r41) mx3_49 (fun u51 g51 =>
                                    .br u51.1
                                      (.done (.returned (.bool false)))
                                      (.loop (at_ Tryd.f3 [1, 1, 1, 1, 1, 1, 1, 1, 1, 1, 1, 1, 0, 1, 0, 0]) 132 (fx3_52 qx1 r39 r41) [(14, .int .i64 0)] mx3_52 mr3_52 4 (fun u56 g56 =>
                                        .done (.returned (.bool true))) (fun u57 g57 =>
                                        .done (.returned (.bool u57.1))))))))))))))))))) (fun u58 g58 =>
        .stuck))) .pl w := by
  subst hn
  refine loop_i mixed m3_31 s3_31 (by kernel_rfl) (by kernel_rfl)
    (fun (v : ByteArray × Int × Unit) w' => ∃ (k f : Nat), v.2.1 = k ∧ f ≤ 4 ∧ k < 10 ^ f ∧ v.1.size + f ≤ 4 ∧ digs f k ++ v.1.data.toList = digs 4 n ∧ Ch No w w') (fun (v : ByteArray × Int × Unit) _ => v.2.1.toNat) (bytesL [], n, ()) rfl ⟨n, 4, rfl, Nat.le_refl _, by omega, by rw [tb_size]; simp, by rw [tb_data, List.append_nil], Ch.refl _ _⟩ ?_
  rintro ⟨(ds : ByteArray), x, ⟨⟩⟩ g w1 ⟨k, f, (rfl : x = k), f4, hk, (hsz : ds.size + f ≤ 4), (hd : digs f k ++ ds.data.toList = digs 4 n), hw⟩
  rw [t3_31]
  refine br_both (fun e => ?_) fun e => ?_
  · have hk0 : 0 < k := by have := gt_t e; omega
    obtain ⟨f, rfl⟩ : ∃ f', f = f' + 1 := by
      cases f with
      | zero => simp at hk; omega
      | succ f' => exact ⟨f', rfl⟩
    have hkb : k < 10000 := by
      have := Nat.pow_le_pow_right (n := 10) (by decide) f4
      omega
    refine nw fun w2 k2 z2 b2 => ?_
    rw [dig_byte] at b2
    have hA : AtB w2 (some ⟨w1.heap.size, 0, none⟩) 1 [UInt8.ofNat (48 + k % 10)] := ⟨rfl, fun _ => ⟨_, rfl, fun j u hu => by
      rw [addr_add, Nat.zero_add, b2.cell]
      cases j with
      | zero => cases hu; rfl
      | succ j => simp at hu⟩⟩
    refine cv_b hA (nd_i (by rw [tb_size]; exact decide_eq_true (by rw [List.length_singleton]; show 1 + ds.size ≤ _; omega)) ?_)
    refine ⟨(bytesL [UInt8.ofNat (48 + k % 10)] ++ ds, ((k / 10 : Nat) : Int), ()), ?_, ⟨k / 10, f, rfl, by omega, by rw [Nat.pow_succ] at hk; omega, ?_, ?_, hw.trans k2⟩, by dsimp only; omega⟩
    · rw [Int.tdiv_eq_ediv_of_nonneg (Int.natCast_nonneg k), wrap_in (by omega) (by omega)]
      rfl
    · dsimp only
      rw [ByteArray.size_append, tb_size, List.length_singleton]
      omega
    · dsimp only
      rw [← hd]
      show digs f (k / 10) ++ (bytesL [_] ++ ds).data.toList = _
      conv => rhs; unfold digs
      rw [if_neg (by omega), ByteArray.data_append, Array.toList_append, List.append_assoc]
  have hk0 : k = 0 := by have := gt_f e; omega
  subst hk0
  have hd : ds.data.toList = digs 4 n := by
    rw [← hd]
    cases f with
    | zero => rfl
    | succ f => unfold digs; rfl
  clear e hk
  refine ⟨rfl, (ds, ()), rfl, fun g => ?_⟩
  have G1 := G.ch hw (fun _ _ h => h)
  have H1 := h0.trans hw
  refine cl_i (parse_any (bytesL [112, 111, 115, 116]) w1 G1) ?_
  rintro e w2 ⟨k2, hr⟩
  have hp : parseSc (bytesL [112, 111, 115, 116]).data.toList = .ok [⟨3, 0, 0, []⟩] := post_is
  rw [hp] at hr
  obtain ⟨p, np, cp, rfl, hrow, _⟩ := hr
  have hnp : 1 = np := hrow.len
  subst hnp
  refine ⟨((p, 1, cp), .nilIface, ()), rfl, ?_⟩
  refine cut_i mixed s3_36 (fun (v : Bool × Unit) w' => w' = w2 ∧ v.1 = false) (by kernel_rfl) (fun g => ?_) ?_
  · rw [t3_36]
    exact ne_nil (br_false rfl ⟨rfl, (_, ()), rfl, rfl, rfl⟩)
  rintro ⟨v, ⟨⟩⟩ g w3 ⟨rfl, rfl⟩
  refine br_false rfl ?_
  have G3 := G1.ch k2 (fun _ _ h => h)
  have H3 := H1.trans k2
  refine cl_i (parse_any qs0 w3 G3) ?_
  rintro e w4 ⟨k4, hr⟩
  have H4 := H3.trans k4
  have G4 := G3.ch k4 (fun _ _ h => h)
  cases hps : parseSc qs0.data.toList with
  | error er =>
    obtain ⟨l, pl, cd⟩ := er
    rw [hps] at hr
    obtain ⟨v, rfl, hv⟩ := hr
    refine ⟨((none, 0, 0), v, ()), rfl, ne_err hv (br_true rfl ⟨rfl, H4⟩)⟩
  | ok os =>
    rw [hps] at hr
    obtain ⟨q, m, c, rfl, hrow4, hfew⟩ := hr
    have hm : os.length = m := hrow4.len
    have hm2 : m ≤ 2000 := by have := hfew.1; dsimp only at this; omega
    refine ⟨((q, m, c), .nilIface, ()), rfl, ne_nil (br_false rfl ?_)⟩
    dsimp only
    have hdz : ds.size ≤ 4 := by omega
    simp only [ByteArray.size_append, tb_size, List.length_cons, List.length_nil]
    refine nd_i (decide_eq_true (by omega)) (nd_i (decide_eq_true (by omega)) (nd_i (decide_eq_true (by omega)) (nd_i (decide_eq_true (by omega)) (nd_i (decide_eq_true (by omega)) ?_))))
    have ht2 : (bytesL [114, 101, 112, 101, 97, 116, 32] ++ ds ++ bytesL [10] ++ qs0 ++ bytesL [10] ++ bytesL [101, 110, 100]).data.toList = (wRepeat ++ 32 :: digs 4 n) ++ 10 :: (qs0.data.toList ++ 10 :: wEnd) := by
      simp only [ByteArray.data_append, Array.toList_append, hd, wRepeat, wEnd]
      simp
    refine cl_i (parse_any _ w4 G4) ?_
    rintro e w5 ⟨k5, hr⟩
    have H5 := H4.trans k5
    have hlaw := repeat_law qs0.data.toList n h1 h2 ht os hps
    rw [ht2, hlaw] at hr
    have hmn : n * m ≤ 2000 * 2000 := Nat.mul_le_mul h2 hm2
    have hw1 : IntKind.i64.wrap ((m : Int) * (n : Int)) = ((n * m : Nat) : Int) := by
      rw [show (m : Int) * (n : Int) = ((n * m : Nat) : Int) by rw [Int.natCast_mul, Int.mul_comm], wrap_in (by omega) (by omega)]
    have hw2 : IntKind.i64.wrap ((n : Int) * (m : Int)) = ((n * m : Nat) : Int) := by
      rw [show (n : Int) * (m : Int) = ((n * m : Nat) : Int) by rw [Int.natCast_mul], wrap_in (by omega) (by omega)]
    rw [hm] at hr
    by_cases hbig : 2000 < n * m
    · rw [if_pos hbig] at hr
      obtain ⟨v, rfl, hv⟩ := hr
      refine ⟨((none, 0, 0), v, ()), rfl, br_true ?_ ?_⟩
      · rw [hw1]; exact decide_eq_true (by show (2000 : Int) < _; omega)
      have hhl : (bytesL [114, 101, 112, 101, 97, 116, 32] ++ ds ++ bytesL [10] ++ qs0 ++ bytesL [10]).data.toList = (wRepeat ++ 32 :: digs 4 n) ++ 10 :: (qs0.data.toList ++ [10]) := by
        simp only [ByteArray.data_append, Array.toList_append, hd, wRepeat]
        simp
      have hnl : nlM ((wRepeat ++ 32 :: digs 4 n) ++ 10 :: (qs0.data.toList ++ [10])) = nlM qs0.data.toList + 2 := by
        have hdm := digs_mem 4 n
        have hz : (digs 4 n).filter (· == 10) = [] := by
          rw [List.filter_eq_nil_iff]
          intro c hc
          have := hdm c hc
          simp only [beq_iff_eq]
          intro e
          subst e
          simp at this
        unfold nlM
        simp only [List.filter_append, List.filter_cons, hz, wRepeat]
        simp
      generalize hH : (bytesL [114, 101, 112, 101, 97, 116, 32] ++ ds ++ bytesL [10] ++ qs0 ++ bytesL [10]) = hb at *
      generalize hL : (wRepeat ++ 32 :: digs 4 n) ++ 10 :: (qs0.data.toList ++ [10]) = hl at *
      have hbs : hb.size = hl.length := by rw [← hhl]; rfl
      have hbl : hb.size ≤ 8000 := by
        rw [← hH]
        simp only [ByteArray.size_append, tb_size, List.length_cons, List.length_nil]
        omega
      refine loop_i mixed m3_42 s3_42 (by kernel_rfl) (by kernel_rfl)
        (fun (v : Int × Int × Unit) w' => w' = w5 ∧ 0 ≤ v.2.1 ∧ v.2.1 ≤ hl.length ∧ v.1 = 1 + nlM (hl.take v.2.1.toNat) ∧ v.1 ≤ 1 + v.2.1) (fun (v : Int × Int × Unit) _ => hl.length - v.2.1.toNat) (1, 0, ()) rfl ⟨rfl, by simp, by simp, by simp [nlM], by simp⟩ ?_
      rintro ⟨(y : Int), (i : Int), ⟨⟩⟩ g w6 ⟨rfl, (i0 : 0 ≤ i), (i1 : i ≤ hl.length), (hy : y = 1 + nlM (hl.take i.toNat)), (hy2 : y ≤ 1 + i)⟩
      rw [t3_42]
      dsimp only
      rw [hH]
      refine br_both (fun e => ?_) fun e => ?_
      · have hi : i < hb.size := lt_t e
        obtain ⟨c, hc⟩ : ∃ u, hl[i.toNat]? = some u := ⟨_, List.getElem?_eq_getElem (by omega)⟩
        refine bi_i i0 (by omega) ?_
        have hbc : hb[i.toNat]'(by omega) = c := by
          have h1 : hb.data.toList[i.toNat]? = some c := by rw [hhl]; exact hc
          obtain ⟨_, h2⟩ := List.getElem?_eq_some_iff.1 h1
          exact h2
        rw [hbc]
        have hsn := nl_snoc hc
        refine br_both (fun e => ?_) fun e => ?_
        · have hc10 : c = 10 := by
            have : (c.toNat : Int) = 10 := eq_t e
            exact UInt8.toNat_inj.1 (by show c.toNat = 10; omega)
          rw [if_pos hc10] at hsn
          refine ⟨(y + 1, i + 1, ()), ?_, ⟨rfl, by dsimp only; omega, by dsimp only; omega, ?_, by dsimp only; omega⟩, by dsimp only; omega⟩
          · rw [wrap_succ (by omega) (by omega), wrap_succ i0 (by omega)]; rfl
          · dsimp only
            rw [show (i + 1).toNat = i.toNat + 1 by omega, hsn]
            omega
        · have hc10 : c ≠ 10 := fun h => by
            subst h
            exact eq_f (a := (((10 : UInt8).toNat : Nat) : Int)) e rfl
          rw [if_neg hc10] at hsn
          refine ⟨(y, i + 1, ()), ?_, ⟨rfl, by dsimp only; omega, by dsimp only; omega, ?_, by dsimp only; omega⟩, by dsimp only; omega⟩
          · rw [wrap_succ i0 (by omega)]; rfl
          · dsimp only
            rw [show (i + 1).toNat = i.toNat + 1 by omega, hsn]
            omega
      · have hi : (hb.size : Int) ≤ i := lt_f e
        rw [List.take_of_length_le (by omega), hnl] at hy
        have hy3 : y = ((splitM qs0.data.toList).length + 2 : Nat) := by rw [hy, nl_split]; omega
        refine ⟨rfl, (y, ()), rfl, fun g => ?_⟩
        refine cut_i mixed s3_45 (fun (v : Bool × Unit) w' => Ch No w6 w' ∧ v.1 = true) (by kernel_rfl) (fun g => ?_) ?_
        · rw [t3_45]
          refine br_true rfl ?_
          rw [hy3]
          refine cl_i (agrees_true v _ 0 65 w6 hv) ?_
          rintro e w7 ⟨rfl, k7⟩
          exact ⟨true, rfl, rfl, (true, ()), rfl, k7, rfl⟩
        rintro ⟨v, ⟨⟩⟩ g w7 ⟨k7, rfl⟩
        exact ⟨rfl, H5.trans k7⟩
    · rw [if_neg hbig] at hr
      obtain ⟨p', N, c', rfl, hrow5, hfew5⟩ := hr
      have hN : n * m = N := by have := hrow5.len; rw [rep_len, hm] at this; exact this
      refine ⟨((p', N, c'), .nilIface, ()), rfl, br_false ?_ ?_⟩
      · rw [hw1]; exact decide_eq_false (by show ¬ (2000 : Int) < _; omega)
      refine cut_i mixed s3_49 (fun (v : Bool × Unit) w' => w' = w5 ∧ v.1 = false) (by kernel_rfl) (fun g => ?_) ?_
      · rw [t3_49]
        refine ne_nil (br_false rfl ⟨rfl, (_, ()), rfl, rfl, ?_⟩)
        dsimp only
        rw [hw2, hN]
        simp
      rintro ⟨v, ⟨⟩⟩ g w6 ⟨rfl, rfl⟩
      refine br_false rfl ?_
      obtain ⟨cs5, hr5, ho5⟩ := hrow5
      have hcap5 := hr5.cap
      have hat5 : AtOps w6 p' N (List.replicate n os).flatten := OpsRow.at ⟨cs5, hr5, ho5⟩
      have hat4 : AtOps w6 q m os := (OpsRow.at hrow4).no k5
      refine loop_i mixed m3_52 s3_52 (by kernel_rfl) (by kernel_rfl)
        (fun (v : Int × Unit) w' => 0 ≤ v.1 ∧ v.1 ≤ n ∧ Ch No w6 w') (fun (v : Int × Unit) _ => n - v.1.toNat) (0, ()) rfl ⟨by simp, by simp, Ch.refl _ _⟩ ?_
      rintro ⟨(i : Int), ⟨⟩⟩ g w7 ⟨(i0 : 0 ≤ i), (i1 : i ≤ n), k7⟩
      rw [t3_52]
      refine cut_i mixed s3_53 (fun (v : Bool × Unit) w' => w' = w7 ∧ v.1 = decide (i < n ∧ 0 < m)) (by kernel_rfl) (fun g => ?_) ?_
      · rw [t3_53]
        refine br_both (fun e => ⟨rfl, (_, ()), rfl, rfl, ?_⟩) fun e => ⟨rfl, (_, ()), rfl, rfl, ?_⟩
        · have e := lt_t e
          exact decide_eq_decide.2 ⟨fun h => ⟨e, by have h : (0 : Int) < m := h; omega⟩, fun h => by show (0 : Int) < m; omega⟩
        · have e := lt_f e
          exact (decide_eq_false (fun h => by omega)).symm
      rintro ⟨v, ⟨⟩⟩ g w8 ⟨rfl, hv⟩
      dsimp only at hv
      subst hv
      refine br_both (fun e => ?_) fun e => ?_
      · obtain ⟨hi, hm0⟩ := of_decide_eq_true e
        obtain ⟨j, rfl⟩ : ∃ j : Nat, i = j := ⟨i.toNat, by omega⟩
        have hjm : (j + 1) * m ≤ n * m := Nat.mul_le_mul_right _ (by omega)
        have hjm0 : (j + 1) * m = j * m + m := by rw [Nat.add_mul, Nat.one_mul]
        have e1 : IntKind.i64.wrap ((j : Int) * (m : Int)) = ((j * m : Nat) : Int) := by rw [← Int.natCast_mul, wrap_in (by omega) (by omega)]
        have e2 : IntKind.i64.wrap (IntKind.i64.wrap ((j : Int) + 1) * (m : Int)) = (((j + 1) * m : Nat) : Int) := by
          rw [wrap_succ (by omega) (by omega), show (j : Int) + 1 = ((j + 1 : Nat) : Int) by omega, ← Int.natCast_mul, wrap_in (by omega) (by omega)]
        dsimp only
        rw [e1, e2]
        refine nd3 (by omega) (by omega) (by omega) ?_
        rw [show ((j * m : Nat) : Int).toNat = j * m from Int.toNat_natCast _, if_neg (by omega), hjm0, show ((j * m + m : Nat) : Int).toNat - j * m = m by omega]
        have hsub : AtOps w8 (Option.map (fun q => q.add (j * m * 4)) p') m os := by
          have h1 := (hat5.no k7).sub (j * m) m (by omega) (q := Option.map (fun q => q.add (j * m * 4)) p') (fun _ g o hp => by rw [hp, Option.map_some, addr_add])
          have h2 : ((List.replicate n os).flatten.drop (j * m)).take m = os := by
            obtain ⟨r, hr⟩ : ∃ r, n = j + (r + 1) := ⟨n - j - 1, by omega⟩
            rw [hr, ← List.replicate_append_replicate, List.flatten_append, List.drop_left' (by rw [rep_len, hm]), List.replicate_succ, List.flatten_cons, List.take_left' hm]
          rw [h2] at h1
          exact h1
        refine cl_i (sameOps_eq w8 _ q m m _ c os hsub (hat4.no k7) (by omega) (fun o ho => by have := hfew.2.2 o ho; omega)) ?_
        rintro e w9 ⟨rfl, k9⟩
        refine ⟨true, rfl, br_false rfl ⟨((j : Int) + 1, ()), ?_, ⟨by dsimp only; omega, by dsimp only; omega, k7.trans k9⟩, by dsimp only; omega⟩⟩
        rw [wrap_succ i0 (by omega)]; rfl
      · exact ⟨rfl, (), rfl, fun g => ⟨rfl, H5.trans k7⟩⟩
/-- PlanRepeats answers true. -/
theorem law_any (text : ByteArray) (n : Int) (w : World) (G : Glob w) : Calls Tryd.prog 3 #[.string text, .int .i64 n] w fun e w' => e = .returned (.bool true) ∧ Ch No w w' := by
  refine calls_of_fnT mixed Tryd.func3 (s := s3) ?_
  rw [t3]
  refine cut_i mixed s3_1 (fun (v : Bool × Unit) w' => w' = w ∧ v.1 = decide (n < 1 ∨ 2000 < n ∨ 7900 < text.size)) (by kernel_rfl) (fun g => ?_) ?_
  · rw [t3_1]
    refine br_both (fun e => ⟨rfl, (_, ()), rfl, rfl, ?_⟩) fun e => br_both (fun e2 => ⟨rfl, (_, ()), rfl, rfl, ?_⟩) fun e2 => ⟨rfl, (_, ()), rfl, rfl, ?_⟩
    · have e := lt_t e
      exact (decide_eq_true (.inl e)).symm
    · have e2 := gt_t e2
      exact (decide_eq_true (.inr (.inl e2))).symm
    · have e := lt_f e
      have e2 := gt_f e2
      exact decide_eq_decide.2 ⟨fun h => .inr (.inr (by have h : (7900 : Int) < text.size := h; omega)), fun h => by show (7900 : Int) < text.size; omega⟩
  rintro ⟨v, ⟨⟩⟩ g w1 ⟨rfl, hv⟩
  dsimp only at hv
  subst hv
  refine br_both (fun e => ?_) fun e => ?_
  · exact rest_any (bytesL [99, 114, 97, 115, 104]) 3 3 rfl g w1 (by decide) (by decide) (by decide) G w1 (Ch.refl _ _)
  · have e := of_decide_eq_false e
    exact rest_any text n n.toNat (by omega) g w1 (by omega) (by omega) (by omega) G w1 (Ch.refl _ _)
end Go.Proofs.YtnbeahfiikgkiaaDoor
