/- PlanKeeps: the law's walk. -/
import Derived.Test.YtjlmkahagcojcaaGreatDoorTpz
import Derived.Test.YtjlmkahagcojcaaGreatDoorKrt
namespace Go.Proofs.YtjlmkahagcojcaaGreatDoor
open Go Tr
set_option maxRecDepth 100000
/-! the tree of function 5 -/
abbrev fx5_3 (qa0 : Option Addr) (qn0 : Nat) (qc0 : Nat) (qa1 : Option Addr) (qn1 : Nat) (qc1 : Nat) (qs2 : ByteArray) (r2 : ByteArray × Value × Unit) : List (Tmp × Value) := [(0, .slice qa0 qn0 qc0), (1, .slice qa1 qn1 qc1), (2, .string qs2), (7, .string r2.1), (8, r2.snd.1)]
abbrev mx5_3 : List (Tmp × Comp) := [(27, .leaf .bool)]
def s5_3 : Script := .nop (.rn (.one (.leaf .bool)) (.sym (.lit (.lit .nil)) (.lit (.lit .nil))))
theorem t5_3 (qa0 : Option Addr) (qn0 : Nat) (qc0 : Nat) (qa1 : Option Addr) (qn1 : Nat) (qc1 : Nat) (qs2 : ByteArray) (r2 : ByteArray × Value × Unit) (gg3 : Nat → Value) : pieceT Tryz.prog (at_ Tryz.f5 [1, 1, 0, 0]) 99 (fx5_3 qa0 qn0 qc0 qa1 qn1 qc1 qs2 r2) gg3 (mx5_3.map (·.1)) [] [] s5_3 =
  .run (vNext (guarded .neq 24 (.tmp 22) (.const .nilIface) r2.snd.1 .nilIface)) (.one (.leaf .bool)) (fun b4 =>
    .br b4
      (.fin .normal [(27, .bool true)])
      (.fin .normal [(27, .bool (!r2.fst.toList == (bytesL [34, 97, 34, 32, 110, 111, 110, 101, 10]).toList))])) := by kernel_rfl
abbrev fx5_9 (qa0 : Option Addr) (qn0 : Nat) (qc0 : Nat) (qa1 : Option Addr) (qn1 : Nat) (qc1 : Nat) (qs2 : ByteArray) (r8 : (Option Addr × Nat × Nat) × Value × Unit) : List (Tmp × Value) := [(0, .slice qa0 qn0 qc0), (1, .slice qa1 qn1 qc1), (2, .string qs2), (10, .slice r8.1.1 r8.1.2.1 r8.1.2.2), (11, r8.snd.1)]
abbrev mx5_9 : List (Tmp × Comp) := [(47, .leaf .bool)]
def s5_9 : Script := .nop (.rn (.one (.leaf .bool)) (.sym (.lit (.lit (.lit (.lit .nil)))) (.lit (.lit (.cl (.one (.leaf .bool)) (.lit (.lit .nil)))))))
theorem t5_9 (qa0 : Option Addr) (qn0 : Nat) (qc0 : Nat) (qa1 : Option Addr) (qn1 : Nat) (qc1 : Nat) (qs2 : ByteArray) (r8 : (Option Addr × Nat × Nat) × Value × Unit) (gg9 : Nat → Value) : pieceT Tryz.prog (at_ Tryz.f5 [1, 1, 1, 1, 0, 1, 0, 1, 0]) 99 (fx5_9 qa0 qn0 qc0 qa1 qn1 qc1 qs2 r8) gg9 (mx5_9.map (·.1)) [] [] s5_9 =
  .run (vNext (guarded .neq 24 (.tmp 40) (.const .nilIface) r8.snd.1 .nilIface)) (.one (.leaf .bool)) (fun b10 =>
    .br b10
      (.fin .normal [(47, .bool true)])
      (.call 16 #[.slice r8.1.1 r8.1.2.1 r8.1.2.2, .slice qa0 qn0 qc0] (.one (.leaf .bool)) (fun b11 =>
        .fin .normal [(47, .bool (!b11))]))) := by kernel_rfl
abbrev fx5_16 (qa1 : Option Addr) (qn1 : Nat) (qc1 : Nat) (qs2 : ByteArray) (r15 : (Option Addr × Nat × Nat) × Value × Unit) : List (Tmp × Value) := [(1, .slice qa1 qn1 qc1), (2, .string qs2), (12, .slice r15.1.1 r15.1.2.1 r15.1.2.2), (13, r15.snd.1)]
abbrev mx5_16 : List (Tmp × Comp) := [(67, .leaf .bool)]
def s5_16 : Script := .nop (.rn (.one (.leaf .bool)) (.sym (.lit (.lit (.lit (.lit .nil)))) (.lit (.lit (.cl (.one (.leaf .bool)) (.lit (.lit .nil)))))))
theorem t5_16 (qa1 : Option Addr) (qn1 : Nat) (qc1 : Nat) (qs2 : ByteArray) (r15 : (Option Addr × Nat × Nat) × Value × Unit) (gg16 : Nat → Value) : pieceT Tryz.prog (at_ Tryz.f5 [1, 1, 1, 1, 1, 1, 0, 1, 0, 1, 0]) 99 (fx5_16 qa1 qn1 qc1 qs2 r15) gg16 (mx5_16.map (·.1)) [] [] s5_16 =
  .run (vNext (guarded .neq 24 (.tmp 60) (.const .nilIface) r15.snd.1 .nilIface)) (.one (.leaf .bool)) (fun b17 =>
    .br b17
      (.fin .normal [(67, .bool true)])
      (.call 9 #[.slice r15.1.1 r15.1.2.1 r15.1.2.2, .slice qa1 qn1 qc1] (.one (.leaf .bool)) (fun b18 =>
        .fin .normal [(67, .bool (!b18))]))) := by kernel_rfl
abbrev fx5_37 (qa1 : Option Addr) (qn1 : Nat) (qc1 : Nat) (qs2 : ByteArray) (r36 : (Option Addr × Nat × Nat) × Value × Unit) : List (Tmp × Value) := [(1, .slice qa1 qn1 qc1), (2, .string qs2), (12, .slice r36.1.1 r36.1.2.1 r36.1.2.2), (13, r36.snd.1)]
abbrev mx5_37 : List (Tmp × Comp) := [(67, .leaf .bool)]
def s5_37 : Script := .nop (.rn (.one (.leaf .bool)) (.sym (.lit (.lit (.lit (.lit .nil)))) (.lit (.lit (.cl (.one (.leaf .bool)) (.lit (.lit .nil)))))))
theorem t5_37 (qa1 : Option Addr) (qn1 : Nat) (qc1 : Nat) (qs2 : ByteArray) (r36 : (Option Addr × Nat × Nat) × Value × Unit) (gg37 : Nat → Value) : pieceT Tryz.prog (at_ Tryz.f5 [1, 1, 1, 1, 1, 1, 0, 1, 0, 1, 0]) 99 (fx5_37 qa1 qn1 qc1 qs2 r36) gg37 (mx5_37.map (·.1)) [] [] s5_37 =
  .run (vNext (guarded .neq 24 (.tmp 60) (.const .nilIface) r36.snd.1 .nilIface)) (.one (.leaf .bool)) (fun b38 =>
    .br b38
      (.fin .normal [(67, .bool true)])
      (.call 9 #[.slice r36.1.1 r36.1.2.1 r36.1.2.2, .slice qa1 qn1 qc1] (.one (.leaf .bool)) (fun b39 =>
        .fin .normal [(67, .bool (!b39))]))) := by kernel_rfl
def s5 : Script := .cl (.tup [.leaf .str, .leaf .any]) (.ct 1 [0, 1, 2, 7, 8] mx5_3 (.sym .nil (.cl (.tup [.leaf .str, .leaf .any]) (.nop (.nop (.nop (.nop (.nop (.nop (.rn (.one (.leaf .bool)) (.sym (.cl (.tup [.leaf .sl, .leaf .any]) (.ct 0 [0, 1, 2, 10, 11] mx5_9 (.sym .nil (.cl (.tup [.leaf .str, .leaf .any]) (.nop (.nop (.nop (.nop (.nop (.nop (.rn (.one (.leaf .bool)) (.sym (.cl (.tup [.leaf .sl, .leaf .any]) (.ct 0 [1, 2, 12, 13] mx5_16 (.sym .nil (.cl (.tup [.leaf .sl, .leaf .any]) (.nop (.nop (.nop (.nop (.nop (.nop (.rn (.one (.leaf .bool)) (.sym .nil (.cl (.tup [.leaf .str, .leaf .any]) (.nop (.nop (.nop (.nop (.nop (.nop (.rn (.one (.leaf .bool)) (.sym .nil (.cl (.tup [.leaf .sl, .leaf .any]) (.nop (.nop (.nop (.nop (.nop (.nop (.rn (.one (.leaf .bool)) (.sym (.lit (.lit (.cl (.one (.leaf .bool)) (.lit .nil)))) (.lit (.lit (.lit .nil))))))))))))))))))))))))))))))))) (.cl (.tup [.leaf .sl, .leaf .any]) (.nop (.nop (.nop (.nop (.nop (.nop (.rn (.one (.leaf .bool)) (.sym .nil (.cl (.tup [.leaf .str, .leaf .any]) (.nop (.nop (.nop (.nop (.nop (.nop (.rn (.one (.leaf .bool)) (.sym .nil (.cl (.tup [.leaf .sl, .leaf .any]) (.nop (.nop (.nop (.nop (.nop (.nop (.rn (.one (.leaf .bool)) (.sym (.lit (.lit (.cl (.one (.leaf .bool)) (.lit .nil)))) (.lit (.lit (.lit .nil)))))))))))))))))))))))))))))))))))))))))) (.cl (.tup [.leaf .str, .leaf .any]) (.nop (.nop (.nop (.nop (.nop (.nop (.rn (.one (.leaf .bool)) (.sym (.cl (.tup [.leaf .sl, .leaf .any]) (.ct 0 [1, 2, 12, 13] mx5_37 (.sym .nil (.cl (.tup [.leaf .sl, .leaf .any]) (.nop (.nop (.nop (.nop (.nop (.nop (.rn (.one (.leaf .bool)) (.sym .nil (.cl (.tup [.leaf .str, .leaf .any]) (.nop (.nop (.nop (.nop (.nop (.nop (.rn (.one (.leaf .bool)) (.sym .nil (.cl (.tup [.leaf .sl, .leaf .any]) (.nop (.nop (.nop (.nop (.nop (.nop (.rn (.one (.leaf .bool)) (.sym (.lit (.lit (.cl (.one (.leaf .bool)) (.lit .nil)))) (.lit (.lit (.lit .nil))))))))))))))))))))))))))))))))) (.cl (.tup [.leaf .sl, .leaf .any]) (.nop (.nop (.nop (.nop (.nop (.nop (.rn (.one (.leaf .bool)) (.sym .nil (.cl (.tup [.leaf .str, .leaf .any]) (.nop (.nop (.nop (.nop (.nop (.nop (.rn (.one (.leaf .bool)) (.sym .nil (.cl (.tup [.leaf .sl, .leaf .any]) (.nop (.nop (.nop (.nop (.nop (.nop (.rn (.one (.leaf .bool)) (.sym (.lit (.lit (.cl (.one (.leaf .bool)) (.lit .nil)))) (.lit (.lit (.lit .nil))))))))))))))))))))))))))))))))))))))))))))))))))
theorem t5 (qa0 : Option Addr) (qn0 : Nat) (qc0 : Nat) (qa1 : Option Addr) (qn1 : Nat) (qc1 : Nat) (qs2 : ByteArray) : fnT Tryz.prog Tryz.f5 #[.slice qa0 qn0 qc0, .slice qa1 qn1 qc1, .string qs2] s5 =
  .new (.cells #[.string (bytesL [97]), .int .i64 0, .int .i64 0, .string (bytesL []), .slice none 0 0, .slice none 0 0] 54 (0, 0)) (fun n1 =>
    .call 18 #[.slice (some ⟨n1, 0, none⟩) 1 1] (.tup [.leaf .str, .leaf .any]) (fun r2 =>
      .cut (at_ Tryz.f5 [1, 1, 0, 0]) 99 (fx5_3 qa0 qn0 qc0 qa1 qn1 qc1 qs2 r2) mx5_3 (fun u5 g5 =>
        .br u5.1
          (.done (.returned (.bool false)))
          (.call 18 #[.slice qa0 qn0 qc0] (.tup [.leaf .str, .leaf .any]) (fun r6 =>
            .run (vNext (guarded .eql 24 (.tmp 33) (.const .nilIface) r6.snd.1 .nilIface)) (.one (.leaf .bool)) (fun b7 =>
              .br b7
                (.call 14 #[.string r6.1] (.tup [.leaf .sl, .leaf .any]) (fun r8 =>
                  .cut (at_ Tryz.f5 [1, 1, 1, 1, 0, 1, 0, 1, 0]) 99 (fx5_9 qa0 qn0 qc0 qa1 qn1 qc1 qs2 r8) mx5_9 (fun u12 g12 =>
                    .br u12.1
                      (.done (.returned (.bool false)))
                      (.call 11 #[.slice qa1 qn1 qc1] (.tup [.leaf .str, .leaf .any]) (fun r13 =>
                        .run (vNext (guarded .eql 24 (.tmp 53) (.const .nilIface) r13.snd.1 .nilIface)) (.one (.leaf .bool)) (fun b14 =>
                          .br b14
                            (.call 6 #[.string r13.1] (.tup [.leaf .sl, .leaf .any]) (fun r15 =>
                              .cut (at_ Tryz.f5 [1, 1, 1, 1, 1, 1, 0, 1, 0, 1, 0]) 99 (fx5_16 qa1 qn1 qc1 qs2 r15) mx5_16 (fun u19 g19 =>
                                .br u19.1
                                  (.done (.returned (.bool false)))
                                  (.call 6 #[.string qs2] (.tup [.leaf .sl, .leaf .any]) (fun r20 =>
                                    .run (vNext (guarded .neq 24 (.tmp 73) (.const .nilIface) r20.snd.1 .nilIface)) (.one (.leaf .bool)) (fun b21 =>
                                      .br b21
                                        (.done (.returned (.bool ((↑r20.fst.snd.fst : Int) == 0))))
                                        (.call 11 #[.slice r20.1.1 r20.1.2.1 r20.1.2.2] (.tup [.leaf .str, .leaf .any]) (fun r22 =>
                                          .run (vNext (guarded .neq 24 (.tmp 83) (.const .nilIface) r22.snd.1 .nilIface)) (.one (.leaf .bool)) (fun b23 =>
                                            .br b23
                                              (.done (.returned (.bool (r22.fst.toList == (bytesL []).toList))))
                                              (.call 6 #[.string r22.1] (.tup [.leaf .sl, .leaf .any]) (fun r24 =>
                                                .run (vNext (guarded .eql 24 (.tmp 92) (.const .nilIface) r24.snd.1 .nilIface)) (.one (.leaf .bool)) (fun b25 =>
                                                  .br b25
                                                    (.call 9 #[.slice r20.1.1 r20.1.2.1 r20.1.2.2, .slice r24.1.1 r24.1.2.1 r24.1.2.2] (.one (.leaf .bool)) (fun b26 =>
                                                      .done (.returned (.bool b26))))
                                                    (.done (.returned (.bool false)))))))))))))))
                            (.call 6 #[.string qs2] (.tup [.leaf .sl, .leaf .any]) (fun r27 =>
                              .run (vNext (guarded .neq 24 (.tmp 73) (.const .nilIface) r27.snd.1 .nilIface)) (.one (.leaf .bool)) (fun b28 =>
                                .br b28
                                  (.done (.returned (.bool ((↑r27.fst.snd.fst : Int) == 0))))
                                  (.call 11 #[.slice r27.1.1 r27.1.2.1 r27.1.2.2] (.tup [.leaf .str, .leaf .any]) (fun r29 =>
                                    .run (vNext (guarded .neq 24 (.tmp 83) (.const .nilIface) r29.snd.1 .nilIface)) (.one (.leaf .bool)) (fun b30 =>
                                      .br b30
                                        (.done (.returned (.bool (r29.fst.toList == (bytesL []).toList))))
                                        (.call 6 #[.string r29.1] (.tup [.leaf .sl, .leaf .any]) (fun r31 =>
                                          .run (vNext (guarded .eql 24 (.tmp 92) (.const .nilIface) r31.snd.1 .nilIface)) (.one (.leaf .bool)) (fun b32 =>
                                            .br b32
                                              (.call 9 #[.slice r27.1.1 r27.1.2.1 r27.1.2.2, .slice r31.1.1 r31.1.2.1 r31.1.2.2] (.one (.leaf .bool)) (fun b33 =>
                                                .done (.returned (.bool b33))))
                                              (.done (.returned (.bool false))))))))))))))))))
                (.call 11 #[.slice qa1 qn1 qc1] (.tup [.leaf .str, .leaf .any]) (fun r34 =>
                  .run (vNext (guarded .eql 24 (.tmp 53) (.const .nilIface) r34.snd.1 .nilIface)) (.one (.leaf .bool)) (fun b35 =>
                    .br b35
                      (.call 6 #[.string r34.1] (.tup [.leaf .sl, .leaf .any]) (fun r36 =>
                        .cut (at_ Tryz.f5 [1, 1, 1, 1, 1, 1, 0, 1, 0, 1, 0]) 99 (fx5_37 qa1 qn1 qc1 qs2 r36) mx5_37 (fun u40 g40 =>
                          .br u40.1
                            (.done (.returned (.bool false)))
                            (.call 6 #[.string qs2] (.tup [.leaf .sl, .leaf .any]) (fun r41 =>
                              .run (vNext (guarded .neq 24 (.tmp 73) (.const .nilIface) r41.snd.1 .nilIface)) (.one (.leaf .bool)) (fun b42 =>
                                .br b42
                                  (.done (.returned (.bool ((↑r41.fst.snd.fst : Int) == 0))))
                                  (.call 11 #[.slice r41.1.1 r41.1.2.1 r41.1.2.2] (.tup [.leaf .str, .leaf .any]) (fun r43 =>
                                    .run (vNext (guarded .neq 24 (.tmp 83) (.const .nilIface) r43.snd.1 .nilIface)) (.one (.leaf .bool)) (fun b44 =>
                                      .br b44
                                        (.done (.returned (.bool (r43.fst.toList == (bytesL []).toList))))
                                        (.call 6 #[.string r43.1] (.tup [.leaf .sl, .leaf .any]) (fun r45 =>
                                          .run (vNext (guarded .eql 24 (.tmp 92) (.const .nilIface) r45.snd.1 .nilIface)) (.one (.leaf .bool)) (fun b46 =>
                                            .br b46
                                              (.call 9 #[.slice r41.1.1 r41.1.2.1 r41.1.2.2, .slice r45.1.1 r45.1.2.1 r45.1.2.2] (.one (.leaf .bool)) (fun b47 =>
                                                .done (.returned (.bool b47))))
                                              (.done (.returned (.bool false)))))))))))))))
                      (.call 6 #[.string qs2] (.tup [.leaf .sl, .leaf .any]) (fun r48 =>
                        .run (vNext (guarded .neq 24 (.tmp 73) (.const .nilIface) r48.snd.1 .nilIface)) (.one (.leaf .bool)) (fun b49 =>
                          .br b49
                            (.done (.returned (.bool ((↑r48.fst.snd.fst : Int) == 0))))
                            (.call 11 #[.slice r48.1.1 r48.1.2.1 r48.1.2.2] (.tup [.leaf .str, .leaf .any]) (fun r50 =>
                              .run (vNext (guarded .neq 24 (.tmp 83) (.const .nilIface) r50.snd.1 .nilIface)) (.one (.leaf .bool)) (fun b51 =>
                                .br b51
                                  (.done (.returned (.bool (r50.fst.toList == (bytesL []).toList))))
                                  (.call 6 #[.string r50.1] (.tup [.leaf .sl, .leaf .any]) (fun r52 =>
                                    .run (vNext (guarded .eql 24 (.tmp 92) (.const .nilIface) r52.snd.1 .nilIface)) (.one (.leaf .bool)) (fun b53 =>
                                      .br b53
                                        (.call 9 #[.slice r48.1.1 r48.1.2.1 r48.1.2.2, .slice r52.1.1 r52.1.2.1 r52.1.2.2] (.one (.leaf .bool)) (fun b54 =>
                                          .done (.returned (.bool b54))))
                                        (.done (.returned (.bool false))))))))))))))))))))) := by kernel_rfl

section
variable {R : Ending → World → Prop} {Q : Exit → List (Tmp × Value) → World → Prop} {w : World} {md : Md} [hmd : md.Runs]
theorem eql_nil {k : Bool → T} {x : Operand} (h : wpT Tryz.prog R Q (k true) md w) : wpT Tryz.prog R Q (.run (vNext (guarded .eql tErrT x (.const .nilIface) .nilIface .nilIface)) (.one (.leaf .bool)) k) md w :=
  t_run (x := true) (w' := w) (by cases x <;> simp [vNext, guarded, eqGuard, go_sem, Tr.Shape.val, Tr.Comp.val, Tr.Leaf.val]) h
theorem eql_err {k : Bool → T} {x : Operand} {v : Value} {l a c : Int} (hv : ErrAt w v l a c) (h : wpT Tryz.prog R Q (k false) md w) : wpT Tryz.prog R Q (.run (vNext (guarded .eql tErrT x (.const .nilIface) v .nilIface)) (.one (.leaf .bool)) k) md w := by
  obtain ⟨b, rfl, _⟩ := hv
  exact t_run (x := false) (w' := w) (by simp [vNext, guarded, eqGuard, go_sem, Tr.Shape.val, Tr.Comp.val, Tr.Leaf.val]) h
end
/-- A script's text, read, written and read again. -/
theorem keeps_tail (qs2 : ByteArray) (w w4 : World) (H4 : Ch No w w4) (G : Glob w4) : wpT Tryz.prog (fun e w' => e = .returned (.bool true) ∧ Ch No w w') (fun _ _ _ => False) (.call 6 #[.string qs2] (.tup [.leaf .sl, .leaf .any]) (fun r20 =>
                                    .run (vNext (guarded .neq 24 (.tmp 73) (.const .nilIface) r20.snd.1 .nilIface)) (.one (.leaf .bool)) (fun b21 =>
                                      .br b21
                                        (.done (.returned (.bool ((↑r20.fst.snd.fst : Int) == 0))))
                                        (.call 11 #[.slice r20.1.1 r20.1.2.1 r20.1.2.2] (.tup [.leaf .str, .leaf .any]) (fun r22 =>
                                          .run (vNext (guarded .neq 24 (.tmp 83) (.const .nilIface) r22.snd.1 .nilIface)) (.one (.leaf .bool)) (fun b23 =>
                                            .br b23
                                              (.done (.returned (.bool (r22.fst.toList == (bytesL []).toList))))
                                              (.call 6 #[.string r22.1] (.tup [.leaf .sl, .leaf .any]) (fun r24 =>
                                                .run (vNext (guarded .eql 24 (.tmp 92) (.const .nilIface) r24.snd.1 .nilIface)) (.one (.leaf .bool)) (fun b25 =>
                                                  .br b25
                                                    (.call 9 #[.slice r20.1.1 r20.1.2.1 r20.1.2.2, .slice r24.1.1 r24.1.2.1 r24.1.2.2] (.one (.leaf .bool)) (fun b26 =>
                                                      .done (.returned (.bool b26))))
                                                    (.done (.returned (.bool false)))))))))))) .pl w4 := by
  refine cl_i (parse_any qs2 w4 G) ?_
  rintro e w5 ⟨h5, hr⟩
  have H5 := H4.trans h5
  cases hp : parseSc qs2.data.toList with
  | error er =>
    obtain ⟨l, pl, cd⟩ := er
    rw [hp] at hr
    obtain ⟨v, rfl, hv⟩ := hr
    exact ⟨((none, 0, 0), v, ()), rfl, ne_err hv (br_true rfl ⟨rfl, H5⟩)⟩
  | ok ops =>
    rw [hp] at hr
    obtain ⟨p, n, c, rfl, row, few⟩ := hr
    have hf1 := few.1
    dsimp only at hf1
    have hlen := row.len
    refine ⟨((p, n, c), .nilIface, ()), rfl, ne_nil (br_false rfl ?_)⟩
    refine cl_i (print_any p n c ops w5 row.at (fun o ho => by have := few.2.2 o ho; omega) (G.ch h5 (fun _ _ h => h))) ?_
    rintro e w6 ⟨h6, hr6⟩
    have H6 := H5.trans h6
    cases hq : printSc ops with
    | none =>
      rw [hq] at hr6
      obtain ⟨v, rfl, hv⟩ := hr6
      exact ⟨(bytesL [], v, ()), rfl, ne_err hv (br_true rfl ⟨by simp, H6⟩)⟩
    | some t =>
      rw [hq] at hr6
      subst hr6
      refine ⟨(bytesL t, .nilIface, ()), rfl, ne_nil (br_false rfl ?_)⟩
      refine cl_i (parse_any (bytesL t) w6 (G.ch (h5.trans h6) (fun _ _ h => h))) ?_
      rintro e w7 ⟨h7, hr7⟩
      rw [tb_data, print_read hq] at hr7
      obtain ⟨p7, n7, c7, rfl, row7, few7⟩ := hr7
      refine ⟨((p7, n7, c7), .nilIface, ()), rfl, eql_nil (br_true rfl ?_)⟩
      refine cl_i (sameOps_up w7 p p7 n n7 c c7 ops (row.at.no (h6.trans h7)) row7.at (by omega) (fun o ho => by have := few.2.2 o ho; omega)) ?_
      rintro e w8 ⟨rfl, h8⟩
      exact ⟨true, rfl, rfl, (H6.trans h7).trans h8⟩
/-- A script, written and read. -/
theorem keeps_mid (qs2 : ByteArray) (qa1 : Option Addr) (qn1 qc1 : Nat) (l : List OpM) (w w4 : World) (H4 : Ch No w w4) (G : Glob w4) (ha : AtOps w4 qa1 qn1 l) (hn : qn1 ≤ 2000000) (hk : ∀ o ∈ l, o.keep.length ≤ 2000000) :
    wpT Tryz.prog (fun e w' => e = .returned (.bool true) ∧ Ch No w w') (fun _ _ _ => False) (.call 11 #[.slice qa1 qn1 qc1] (.tup [.leaf .str, .leaf .any]) (fun r13 =>
                        .run (vNext (guarded .eql 24 (.tmp 53) (.const .nilIface) r13.snd.1 .nilIface)) (.one (.leaf .bool)) (fun b14 =>
                          .br b14
                            (.call 6 #[.string r13.1] (.tup [.leaf .sl, .leaf .any]) (fun r15 =>
                              .cut (at_ Tryz.f5 [1, 1, 1, 1, 1, 1, 0, 1, 0, 1, 0]) 99 (fx5_16 qa1 qn1 qc1 qs2 r15) mx5_16 (fun u19 g19 =>
                                .br u19.1
                                  (.done (.returned (.bool false)))
                                  (.call 6 #[.string qs2] (.tup [.leaf .sl, .leaf .any]) (fun r20 =>
                                    .run (vNext (guarded .neq 24 (.tmp 73) (.const .nilIface) r20.snd.1 .nilIface)) (.one (.leaf .bool)) (fun b21 =>
                                      .br b21
                                        (.done (.returned (.bool ((↑r20.fst.snd.fst : Int) == 0))))
                                        (.call 11 #[.slice r20.1.1 r20.1.2.1 r20.1.2.2] (.tup [.leaf .str, .leaf .any]) (fun r22 =>
                                          .run (vNext (guarded .neq 24 (.tmp 83) (.const .nilIface) r22.snd.1 .nilIface)) (.one (.leaf .bool)) (fun b23 =>
                                            .br b23
                                              (.done (.returned (.bool (r22.fst.toList == (bytesL []).toList))))
                                              (.call 6 #[.string r22.1] (.tup [.leaf .sl, .leaf .any]) (fun r24 =>
                                                .run (vNext (guarded .eql 24 (.tmp 92) (.const .nilIface) r24.snd.1 .nilIface)) (.one (.leaf .bool)) (fun b25 =>
                                                  .br b25
                                                    (.call 9 #[.slice r20.1.1 r20.1.2.1 r20.1.2.2, .slice r24.1.1 r24.1.2.1 r24.1.2.2] (.one (.leaf .bool)) (fun b26 =>
                                                      .done (.returned (.bool b26))))
                                                    (.done (.returned (.bool false)))))))))))))))
                            (.call 6 #[.string qs2] (.tup [.leaf .sl, .leaf .any]) (fun r27 =>
                              .run (vNext (guarded .neq 24 (.tmp 73) (.const .nilIface) r27.snd.1 .nilIface)) (.one (.leaf .bool)) (fun b28 =>
                                .br b28
                                  (.done (.returned (.bool ((↑r27.fst.snd.fst : Int) == 0))))
                                  (.call 11 #[.slice r27.1.1 r27.1.2.1 r27.1.2.2] (.tup [.leaf .str, .leaf .any]) (fun r29 =>
                                    .run (vNext (guarded .neq 24 (.tmp 83) (.const .nilIface) r29.snd.1 .nilIface)) (.one (.leaf .bool)) (fun b30 =>
                                      .br b30
                                        (.done (.returned (.bool (r29.fst.toList == (bytesL []).toList))))
                                        (.call 6 #[.string r29.1] (.tup [.leaf .sl, .leaf .any]) (fun r31 =>
                                          .run (vNext (guarded .eql 24 (.tmp 92) (.const .nilIface) r31.snd.1 .nilIface)) (.one (.leaf .bool)) (fun b32 =>
                                            .br b32
                                              (.call 9 #[.slice r27.1.1 r27.1.2.1 r27.1.2.2, .slice r31.1.1 r31.1.2.1 r31.1.2.2] (.one (.leaf .bool)) (fun b33 =>
                                                .done (.returned (.bool b33))))
                                              (.done (.returned (.bool false))))))))))))))) .pl w4 := by
  refine cl_i (print_any qa1 qn1 qc1 l w4 ha hk G) ?_
  rintro e w5 ⟨h5, hr⟩
  have H5 := H4.trans h5
  have G5 := G.ch h5 (fun _ _ h => h)
  cases hq : printSc l with
  | none =>
    rw [hq] at hr
    obtain ⟨v, rfl, hv⟩ := hr
    exact ⟨(bytesL [], v, ()), rfl, eql_err hv (br_false rfl (keeps_tail qs2 w w5 H5 G5))⟩
  | some t =>
    rw [hq] at hr
    subst hr
    refine ⟨(bytesL t, .nilIface, ()), rfl, eql_nil (br_true rfl ?_)⟩
    refine cl_i (parse_any (bytesL t) w5 G5) ?_
    rintro e w6 ⟨h6, hr6⟩
    rw [tb_data, print_read hq] at hr6
    obtain ⟨p6, n6, c6, rfl, row6, few6⟩ := hr6
    have H6 := H5.trans h6
    refine ⟨((p6, n6, c6), .nilIface, ()), rfl, ?_⟩
    have hlen := row6.len
    have hl := ha.1
    refine cut_i mixed s5_16 (fun (v : Bool × Unit) w' => v.1 = false ∧ Ch No w6 w') (by kernel_rfl) (fun g => ?_) ?_
    · rw [t5_16]
      refine ne_nil (br_false rfl ?_)
      refine cl_i (sameOps_up w6 p6 qa1 n6 qn1 c6 qc1 l row6.at (ha.no (h5.trans h6)) (by omega) hk) ?_
      rintro e w7 ⟨rfl, h7⟩
      exact ⟨true, rfl, rfl, (false, ()), rfl, rfl, h7⟩
    rintro ⟨v, ⟨⟩⟩ g w7 ⟨hv, h7⟩
    dsimp only at hv
    subst hv
    exact br_false rfl (keeps_tail qs2 w w7 (H6.trans h7) (G.ch ((h5.trans h6).trans h7) (fun _ _ h => h)))
theorem one_txt : V.printTp [⟨bytesL [97], noneV, []⟩] = some [34, 97, 34, 32, 110, 111, 110, 101, 10] := by decide +kernel
theorem keeps_any (qa0 : Option Addr) (qn0 qc0 : Nat) (qa1 : Option Addr) (qn1 qc1 : Nat) (qs2 : ByteArray) (lt : List V.RecM) (l : List OpM) (w : World) (G : Glob w) (tb : Tabs w) (ev : V.Ev w)
    (ht : V.AtT w qa0 qn0 lt) (hft : ∀ r ∈ lt, Fit r.val ∧ r.loops.length ≤ 2000000) (htn : qn0 ≤ 2000000) (ha : AtOps w qa1 qn1 l) (hn : qn1 ≤ 2000000) (hk : ∀ o ∈ l, o.keep.length ≤ 2000000) :
    Calls Tryz.prog 5 #[.slice qa0 qn0 qc0, .slice qa1 qn1 qc1, .string qs2] w fun e w' => e = .returned (.bool true) ∧ Ch No w w' := by
  refine calls_of_fnT mixed Tryz.func5 (s := s5) ?_
  rw [t5]
  refine nw fun w1 h1 z1 b1 => ?_
  have hat : V.AtT w1 (some ⟨w.heap.size, 0, none⟩) 1 [⟨bytesL [97], noneV, []⟩] := by
    refine ⟨rfl, fun _ => ⟨_, rfl, fun j x hx => ?_⟩⟩
    have hj := (List.getElem?_eq_some_iff.1 hx).1
    obtain rfl : j = 0 := by simp at hj; omega
    obtain rfl : x = ⟨bytesL [97], noneV, []⟩ := by simpa using hx.symm
    refine ⟨none, 0, 0, none, 0, 0, ?_, ⟨?_, ?_, ?_, ?_⟩, ?_, noneV_is _, ⟨rfl, fun h => by omega⟩⟩ <;> simp only [addr_add] <;> rw [b1.cell] <;> rfl
  refine cl_i (V.ptape_print _ 1 1 _ w1 hat (fun r hr => by
    obtain rfl : r = ⟨bytesL [97], noneV, []⟩ := by simpa using hr
    exact noneV_fit) (G.ch h1 (fun _ _ h => h)) (tb.no h1)) ?_
  rintro e w2 ⟨h2, hr2⟩
  rw [one_txt] at hr2
  subst hr2
  have H2 := h1.trans h2
  refine ⟨(bytesL [34, 97, 34, 32, 110, 111, 110, 101, 10], .nilIface, ()), rfl, ?_⟩
  refine cut_i mixed s5_3 (fun (v : Bool × Unit) w' => v.1 = false ∧ w' = w2) (by kernel_rfl) (fun g => ?_) ?_
  · rw [t5_3]
    exact ne_nil (br_false rfl ⟨rfl, (false, ()), by simp [mvals, Tr.Comp.val, Tr.Leaf.val], rfl, rfl⟩)
  rintro ⟨v, ⟨⟩⟩ g w3 ⟨hv, rfl⟩
  dsimp only at hv
  subst hv
  refine br_false rfl ?_
  refine cl_i (V.ptape_print qa0 qn0 qc0 lt w3 (ht.no H2) (fun r hr => (hft r hr).1) (G.ch H2 (fun _ _ h => h)) (tb.no H2)) ?_
  rintro e w4 ⟨h4, hr4⟩
  have H4 := H2.trans h4
  have G4 := G.ch H4 (fun _ _ h => h)
  cases hp : V.printTp lt with
  | none =>
    rw [hp] at hr4
    obtain ⟨v, rfl, hv⟩ := hr4
    exact ⟨(bytesL [], v, ()), rfl, eql_err hv (br_false rfl (keeps_mid qs2 qa1 qn1 qc1 l w w4 H4 G4 (ha.no H4) hn hk))⟩
  | some t =>
    rw [hp] at hr4
    subst hr4
    refine ⟨(bytesL t, .nilIface, ()), rfl, eql_nil (br_true rfl ?_)⟩
    refine cl_i (V.ptape_any (bytesL t) w4 G4 (tb.no H4) (ev.ch H4 (fun h => h))) ?_
    rintro e w5 ⟨h5, hr5⟩
    rw [tb_data, V.tape_read (fun r hr => (hft r hr).1) hp] at hr5
    obtain ⟨p5, n5, c5, rfl, at5, n64⟩ := hr5
    have H5 := H4.trans h5
    refine ⟨((p5, n5, c5), .nilIface, ()), rfl, ?_⟩
    refine cut_i mixed s5_9 (fun (v : Bool × Unit) w' => v.1 = false ∧ Ch No w5 w') (by kernel_rfl) (fun g => ?_) ?_
    · rw [t5_9]
      refine ne_nil (br_false rfl ?_)
      refine cl_i (V.stape_any w5 p5 qa0 n5 qn0 c5 qc0 lt at5 (ht.no H5) (by omega) (fun r hr => (hft r hr).2)) ?_
      rintro e w6 ⟨rfl, h6⟩
      exact ⟨true, rfl, rfl, (false, ()), rfl, rfl, h6⟩
    rintro ⟨v, ⟨⟩⟩ g w6 ⟨hv, h6⟩
    dsimp only at hv
    subst hv
    have H6 := H5.trans h6
    exact br_false rfl (keeps_mid qs2 qa1 qn1 qc1 l w w6 H6 (G.ch H6 (fun _ _ h => h)) (ha.no H6) hn hk)
end Go.Proofs.YtjlmkahagcojcaaGreatDoor
