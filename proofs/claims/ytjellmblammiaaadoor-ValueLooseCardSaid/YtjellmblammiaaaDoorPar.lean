/- pair: what it does, block by block. -/
import Derived.Test.YtjellmblammiaaaDoorPrt
namespace Go.Proofs.YtjellmblammiaaaDoor
open Go Tr
open Go.Lib (byteCells strCells)
set_option maxRecDepth 100000
section
variable {R : Ending → World → Prop} {Q : Exit → List (Tmp × Value) → World → Prop} {w0 w : World} {L L' : List (Nat × List Value × TypeId)}
theorem both_i {C : World → Prop} {t e : T} (h1 : wpT Tryd.prog R Q t (.he C) w) (h2 : wpT Tryd.prog R Q e (.he C) w) : wpT Tryd.prog R Q (.both t e) (.he C) w := ⟨h1, h2⟩
theorem c17 {x : VT} {p : Option Addr} {m c : Nat} {px : Option Addr} {mx cx : Nat} (hx : IsV w0 x p m c) (ev : (if checkV x = 0 then valV x p m c else valV noneV none 0 0) = valV (validV x) px mx cx) {k : LVars [.int .i64, .int .i64, .str, .sl] → T} (C : Ctx w0 w L)
    (h : ∀ w1, Ctx w0 w1 L → wpT Tryd.prog R Q (k ((validV x).kind, (validV x).int, (validV x).text, (px, mx, cx), ())) (.he (Ch No w0)) w1) :
    wpT Tryd.prog R Q (.eff (.call 17 #[.agg #[.int .i64 x.kind, .int .i64 x.int, .string x.text, .slice p m c]] (.one (.agg [.int .i64, .int .i64, .str, .sl])) (fun r => .back (k r)))) (.he (Ch No w0)) w := by
  show wpT Tryd.prog R Q (.call 17 #[valV x p m c] (.one (.agg [.int .i64, .int .i64, .str, .sl])) (fun r => .back (k r))) (.ef (Ch No w0)) w
  refine cl_i (clean_any x p m c w (hx.no C.ch)) ?_
  rintro e w1 ⟨rfl, h1⟩
  rw [ev]
  have C1 := C.no h1
  exact ⟨_, rfl, C1.ch, h w1 C1⟩
theorem cnew {cs : List Value} {t : TypeId} {f : Nat → T} (C : Ctx w0 w L) (h : ∀ b w1, Ctx w0 w1 ((b, cs, t) :: L) → wpT Tryd.prog R Q (f b) (.he (Ch No w0)) w1) :
    wpT Tryd.prog R Q (.eff (.new (.cells cs.toArray t (0, 0)) (fun n => .back (f n)))) (.he (Ch No w0)) w := by
  show wpT Tryd.prog R Q (.new (.cells cs.toArray t (0, 0)) (fun n => .back (f n))) (.ef (Ch No w0)) w
  exact nwC C fun b w1 C1 => ⟨C1.ch, h b w1 C1⟩
theorem cst4 {b : Nat} {t : TypeId} {vs : List Value} {v0 v1 v2 v3 : Value} {k : T} (hu : Upd b t vs (((((vs.set 0 v0)).set 1 v1).set 2 v2).set 3 v3) L L') (C : Ctx w0 w L) (hl : vs.length = 4) (h0 : v0.oneCell' = true) (h1 : v1.oneCell' = true) (h2 : v2.oneCell' = true) (h3 : v3.oneCell' = true)
    (h : ∀ w1, Ctx w0 w1 L' → wpT Tryd.prog R Q k (.he (Ch No w0)) w1) :
    wpT Tryd.prog R Q (.eff (.store ⟨b, 0, none⟩ v0 (.store ⟨b, 1, none⟩ v1 (.store ⟨b, 2, none⟩ v2 (.store ⟨b, 3, none⟩ v3 (.back k)))))) (.he (Ch No w0)) w := by
  show wpT Tryd.prog R Q (.store ⟨b, 0, none⟩ v0 (.store ⟨b, 1, none⟩ v1 (.store ⟨b, 2, none⟩ v2 (.store ⟨b, 3, none⟩ v3 (.back k))))) (.ef (Ch No w0)) w
  refine st_blk (C.blk hu.mem) (by omega) h0 fun w1 k1 z1 b1 => st_blk b1 (by rw [List.length_set]; omega) h1 fun w2 k2 z2 b2 => st_blk b2 (by rw [List.length_set, List.length_set]; omega) h2 fun w3 k3 z3 b3 => st_blk b3 (by rw [List.length_set, List.length_set, List.length_set]; omega) h3 fun w4 k4 z4 b4 => ?_
  have C4 := C.set hu (k1.trans (k2.trans (k3.trans k4))) b4
  exact ⟨C4.ch, h w4 C4⟩
end
/-! the tree of function 8 -/
abbrev fx8_3 (n1 : Nat) (n2 : Nat) : List (Tmp × Value) := [(2, .pointer (some ⟨n1, 0, none⟩)), (3, .pointer (some ⟨n2, 0, none⟩))]
abbrev mx8_3 : List (Tmp × Comp) := [(5, .leaf .blk), (6, .leaf .blk)]
def s8_3 : Script := .hd0 (.hq 0 (.ld (.int .i64) (.ld (.int .i64) (.ld .str (.ld .sl (.hq 2 (.ld (.int .i64) (.ld (.int .i64) (.ld .str (.ld .sl (.hl 1 (.cl (.one (.agg [.int .i64, .int .i64, .str, .sl])) (.hl 3 (.cl (.one (.agg [.int .i64, .int .i64, .str, .sl])) (.hl 4 (.he 5 (.he 6 (.he 7 .nil))) (.hl 5 (.he 4 (.he 6 (.he 7 .nil))) .nil))) (.hl 4 (.hl 3 (.cl (.one (.agg [.int .i64, .int .i64, .str, .sl])) (.he 5 (.he 6 (.he 7 .nil)))) (.hl 5 (.he 3 (.cl (.one (.agg [.int .i64, .int .i64, .str, .sl])) (.he 6 (.he 7 .nil)))) .nil)) (.hl 5 (.hl 3 (.cl (.one (.agg [.int .i64, .int .i64, .str, .sl])) (.he 4 (.he 6 (.he 7 .nil)))) (.hl 4 (.he 3 (.cl (.one (.agg [.int .i64, .int .i64, .str, .sl])) (.he 6 (.he 7 .nil)))) .nil)) .nil)))) (.hl 4 (.hl 1 (.cl (.one (.agg [.int .i64, .int .i64, .str, .sl])) (.hl 3 (.cl (.one (.agg [.int .i64, .int .i64, .str, .sl])) (.he 5 (.he 6 (.he 7 .nil)))) (.hl 5 (.he 3 (.cl (.one (.agg [.int .i64, .int .i64, .str, .sl])) (.he 6 (.he 7 .nil)))) .nil))) (.hl 5 (.he 1 (.cl (.one (.agg [.int .i64, .int .i64, .str, .sl])) (.he 3 (.cl (.one (.agg [.int .i64, .int .i64, .str, .sl])) (.he 6 (.he 7 .nil)))))) .nil)) (.hl 5 (.hl 1 (.cl (.one (.agg [.int .i64, .int .i64, .str, .sl])) (.hl 3 (.cl (.one (.agg [.int .i64, .int .i64, .str, .sl])) (.he 4 (.he 6 (.he 7 .nil)))) (.hl 4 (.he 3 (.cl (.one (.agg [.int .i64, .int .i64, .str, .sl])) (.he 6 (.he 7 .nil)))) .nil))) (.hl 4 (.he 1 (.cl (.one (.agg [.int .i64, .int .i64, .str, .sl])) (.he 3 (.cl (.one (.agg [.int .i64, .int .i64, .str, .sl])) (.he 6 (.he 7 .nil)))))) .nil)) .nil)))))))))))))
theorem t8_3 (n1 : Nat) (n2 : Nat) (g : Nat → Value) : pieceT Tryd.prog (at_ Tryd.f8 [1, 0]) 99 (fx8_3 n1 n2) g (mx8_3.map (·.1)) [] [] s8_3 =
  .hdrawn
    (.load ⟨n1, 0, none⟩ (.int .i64) (fun x4 =>
      .load ⟨n1, 1, none⟩ (.int .i64) (fun x5 =>
        .load ⟨n1, 2, none⟩ .str (fun s6 =>
          .load ⟨n1, 3, none⟩ .sl (fun l7 =>
            .load ⟨n2, 0, none⟩ (.int .i64) (fun x8 =>
              .load ⟨n2, 1, none⟩ (.int .i64) (fun x9 =>
                .load ⟨n2, 2, none⟩ .str (fun s10 =>
                  .load ⟨n2, 3, none⟩ .sl (fun l11 =>
                    .both
                      (.eff
                        (.call 17 #[.agg #[.int .i64 x4, .int .i64 x5, .string s6, .slice l7.1 l7.2.1 l7.2.2]] (.one (.agg [.int .i64, .int .i64, .str, .sl])) (fun r12 =>
                          .back
                            (.both
                              (.eff
                                (.call 17 #[.agg #[.int .i64 x8, .int .i64 x9, .string s10, .slice l11.1 l11.2.1 l11.2.2]] (.one (.agg [.int .i64, .int .i64, .str, .sl])) (fun r13 =>
                                  .back
                                    (.both
                                      (.eff
                                        (.new (.cells #[.int .i64 0, .int .i64 0, .string (bytesL []), .slice none 0 0] 24 (0, 0)) (fun n14 =>
                                          .back
                                            (.eff
                                              (.new (.cells #[.int .i64 0, .int .i64 0, .string (bytesL []), .slice none 0 0] 24 (0, 0)) (fun n15 =>
                                                .back
                                                  (.eff
                                                    (.store ⟨n14, 0, none⟩ (.int .i64 r12.1)
                                                      (.store ⟨n14, 1, none⟩ (.int .i64 r12.2.1)
                                                        (.store ⟨n14, 2, none⟩ (.string r12.2.2.1)
                                                          (.store ⟨n14, 3, none⟩ (.slice r12.2.2.2.1.1 r12.2.2.2.1.2.1 r12.2.2.2.1.2.2)
                                                            (.back
                                                              (.eff
                                                                (.store ⟨n15, 0, none⟩ (.int .i64 r13.1)
                                                                  (.store ⟨n15, 1, none⟩ (.int .i64 r13.2.1)
                                                                    (.store ⟨n15, 2, none⟩ (.string r13.2.2.1)
                                                                      (.store ⟨n15, 3, none⟩ (.slice r13.2.2.2.1.1 r13.2.2.2.1.2.1 r13.2.2.2.1.2.2)
                                                                        (.back
                                                                          (.undrawn
                                                                            (.fin .normal [(5, .pointer (some ⟨n14, 0, none⟩)), (6, .pointer (some ⟨n15, 0, none⟩))]))))))))))))))))))))
                                      (.both
                                        (.eff
                                          (.new (.cells #[.int .i64 0, .int .i64 0, .string (bytesL []), .slice none 0 0] 24 (0, 0)) (fun n16 =>
                                            .back
                                              (.eff
                                                (.new (.cells #[.int .i64 0, .int .i64 0, .string (bytesL []), .slice none 0 0] 24 (0, 0)) (fun n17 =>
                                                  .back
                                                    (.eff
                                                      (.store ⟨n17, 0, none⟩ (.int .i64 r12.1)
                                                        (.store ⟨n17, 1, none⟩ (.int .i64 r12.2.1)
                                                          (.store ⟨n17, 2, none⟩ (.string r12.2.2.1)
                                                            (.store ⟨n17, 3, none⟩ (.slice r12.2.2.2.1.1 r12.2.2.2.1.2.1 r12.2.2.2.1.2.2)
                                                              (.back
                                                                (.eff
                                                                  (.store ⟨n16, 0, none⟩ (.int .i64 r13.1)
                                                                    (.store ⟨n16, 1, none⟩ (.int .i64 r13.2.1)
                                                                      (.store ⟨n16, 2, none⟩ (.string r13.2.2.1)
                                                                        (.store ⟨n16, 3, none⟩ (.slice r13.2.2.2.1.1 r13.2.2.2.1.2.1 r13.2.2.2.1.2.2)
                                                                          (.back
                                                                            (.undrawn
                                                                              (.fin .normal [(5, .pointer (some ⟨n17, 0, none⟩)), (6, .pointer (some ⟨n16, 0, none⟩))]))))))))))))))))))))
                                        (.triv))))))
                              (.both
                                (.eff
                                  (.new (.cells #[.int .i64 0, .int .i64 0, .string (bytesL []), .slice none 0 0] 24 (0, 0)) (fun n18 =>
                                    .back
                                      (.both
                                        (.eff
                                          (.call 17 #[.agg #[.int .i64 x8, .int .i64 x9, .string s10, .slice l11.1 l11.2.1 l11.2.2]] (.one (.agg [.int .i64, .int .i64, .str, .sl])) (fun r19 =>
                                            .back
                                              (.eff
                                                (.new (.cells #[.int .i64 0, .int .i64 0, .string (bytesL []), .slice none 0 0] 24 (0, 0)) (fun n20 =>
                                                  .back
                                                    (.eff
                                                      (.store ⟨n18, 0, none⟩ (.int .i64 r12.1)
                                                        (.store ⟨n18, 1, none⟩ (.int .i64 r12.2.1)
                                                          (.store ⟨n18, 2, none⟩ (.string r12.2.2.1)
                                                            (.store ⟨n18, 3, none⟩ (.slice r12.2.2.2.1.1 r12.2.2.2.1.2.1 r12.2.2.2.1.2.2)
                                                              (.back
                                                                (.eff
                                                                  (.store ⟨n20, 0, none⟩ (.int .i64 r19.1)
                                                                    (.store ⟨n20, 1, none⟩ (.int .i64 r19.2.1)
                                                                      (.store ⟨n20, 2, none⟩ (.string r19.2.2.1)
                                                                        (.store ⟨n20, 3, none⟩ (.slice r19.2.2.2.1.1 r19.2.2.2.1.2.1 r19.2.2.2.1.2.2)
                                                                          (.back
                                                                            (.undrawn
                                                                              (.fin .normal [(5, .pointer (some ⟨n18, 0, none⟩)), (6, .pointer (some ⟨n20, 0, none⟩))]))))))))))))))))))))
                                        (.both
                                          (.eff
                                            (.new (.cells #[.int .i64 0, .int .i64 0, .string (bytesL []), .slice none 0 0] 24 (0, 0)) (fun n21 =>
                                              .back
                                                (.eff
                                                  (.call 17 #[.agg #[.int .i64 x8, .int .i64 x9, .string s10, .slice l11.1 l11.2.1 l11.2.2]] (.one (.agg [.int .i64, .int .i64, .str, .sl])) (fun r22 =>
                                                    .back
                                                      (.eff
                                                        (.store ⟨n18, 0, none⟩ (.int .i64 r12.1)
                                                          (.store ⟨n18, 1, none⟩ (.int .i64 r12.2.1)
                                                            (.store ⟨n18, 2, none⟩ (.string r12.2.2.1)
                                                              (.store ⟨n18, 3, none⟩ (.slice r12.2.2.2.1.1 r12.2.2.2.1.2.1 r12.2.2.2.1.2.2)
                                                                (.back
                                                                  (.eff
                                                                    (.store ⟨n21, 0, none⟩ (.int .i64 r22.1)
                                                                      (.store ⟨n21, 1, none⟩ (.int .i64 r22.2.1)
                                                                        (.store ⟨n21, 2, none⟩ (.string r22.2.2.1)
                                                                          (.store ⟨n21, 3, none⟩ (.slice r22.2.2.2.1.1 r22.2.2.2.1.2.1 r22.2.2.2.1.2.2)
                                                                            (.back
                                                                              (.undrawn
                                                                                (.fin .normal [(5, .pointer (some ⟨n18, 0, none⟩)), (6, .pointer (some ⟨n21, 0, none⟩))]))))))))))))))))))))
                                          (.triv))))))
                                (.both
                                  (.eff
                                    (.new (.cells #[.int .i64 0, .int .i64 0, .string (bytesL []), .slice none 0 0] 24 (0, 0)) (fun n23 =>
                                      .back
                                        (.both
                                          (.eff
                                            (.call 17 #[.agg #[.int .i64 x8, .int .i64 x9, .string s10, .slice l11.1 l11.2.1 l11.2.2]] (.one (.agg [.int .i64, .int .i64, .str, .sl])) (fun r24 =>
                                              .back
                                                (.eff
                                                  (.new (.cells #[.int .i64 0, .int .i64 0, .string (bytesL []), .slice none 0 0] 24 (0, 0)) (fun n25 =>
                                                    .back
                                                      (.eff
                                                        (.store ⟨n25, 0, none⟩ (.int .i64 r12.1)
                                                          (.store ⟨n25, 1, none⟩ (.int .i64 r12.2.1)
                                                            (.store ⟨n25, 2, none⟩ (.string r12.2.2.1)
                                                              (.store ⟨n25, 3, none⟩ (.slice r12.2.2.2.1.1 r12.2.2.2.1.2.1 r12.2.2.2.1.2.2)
                                                                (.back
                                                                  (.eff
                                                                    (.store ⟨n23, 0, none⟩ (.int .i64 r24.1)
                                                                      (.store ⟨n23, 1, none⟩ (.int .i64 r24.2.1)
                                                                        (.store ⟨n23, 2, none⟩ (.string r24.2.2.1)
                                                                          (.store ⟨n23, 3, none⟩ (.slice r24.2.2.2.1.1 r24.2.2.2.1.2.1 r24.2.2.2.1.2.2)
                                                                            (.back
                                                                              (.undrawn
                                                                                (.fin .normal [(5, .pointer (some ⟨n25, 0, none⟩)), (6, .pointer (some ⟨n23, 0, none⟩))]))))))))))))))))))))
                                          (.both
                                            (.eff
                                              (.new (.cells #[.int .i64 0, .int .i64 0, .string (bytesL []), .slice none 0 0] 24 (0, 0)) (fun n26 =>
                                                .back
                                                  (.eff
                                                    (.call 17 #[.agg #[.int .i64 x8, .int .i64 x9, .string s10, .slice l11.1 l11.2.1 l11.2.2]] (.one (.agg [.int .i64, .int .i64, .str, .sl])) (fun r27 =>
                                                      .back
                                                        (.eff
                                                          (.store ⟨n26, 0, none⟩ (.int .i64 r12.1)
                                                            (.store ⟨n26, 1, none⟩ (.int .i64 r12.2.1)
                                                              (.store ⟨n26, 2, none⟩ (.string r12.2.2.1)
                                                                (.store ⟨n26, 3, none⟩ (.slice r12.2.2.2.1.1 r12.2.2.2.1.2.1 r12.2.2.2.1.2.2)
                                                                  (.back
                                                                    (.eff
                                                                      (.store ⟨n23, 0, none⟩ (.int .i64 r27.1)
                                                                        (.store ⟨n23, 1, none⟩ (.int .i64 r27.2.1)
                                                                          (.store ⟨n23, 2, none⟩ (.string r27.2.2.1)
                                                                            (.store ⟨n23, 3, none⟩ (.slice r27.2.2.2.1.1 r27.2.2.2.1.2.1 r27.2.2.2.1.2.2)
                                                                              (.back
                                                                                (.undrawn
                                                                                  (.fin .normal [(5, .pointer (some ⟨n26, 0, none⟩)), (6, .pointer (some ⟨n23, 0, none⟩))]))))))))))))))))))))
                                            (.triv))))))
                                  (.triv)))))))
                      (.both
                        (.eff
                          (.new (.cells #[.int .i64 0, .int .i64 0, .string (bytesL []), .slice none 0 0] 24 (0, 0)) (fun n28 =>
                            .back
                              (.both
                                (.eff
                                  (.call 17 #[.agg #[.int .i64 x4, .int .i64 x5, .string s6, .slice l7.1 l7.2.1 l7.2.2]] (.one (.agg [.int .i64, .int .i64, .str, .sl])) (fun r29 =>
                                    .back
                                      (.both
                                        (.eff
                                          (.call 17 #[.agg #[.int .i64 x8, .int .i64 x9, .string s10, .slice l11.1 l11.2.1 l11.2.2]] (.one (.agg [.int .i64, .int .i64, .str, .sl])) (fun r30 =>
                                            .back
                                              (.eff
                                                (.new (.cells #[.int .i64 0, .int .i64 0, .string (bytesL []), .slice none 0 0] 24 (0, 0)) (fun n31 =>
                                                  .back
                                                    (.eff
                                                      (.store ⟨n28, 0, none⟩ (.int .i64 r29.1)
                                                        (.store ⟨n28, 1, none⟩ (.int .i64 r29.2.1)
                                                          (.store ⟨n28, 2, none⟩ (.string r29.2.2.1)
                                                            (.store ⟨n28, 3, none⟩ (.slice r29.2.2.2.1.1 r29.2.2.2.1.2.1 r29.2.2.2.1.2.2)
                                                              (.back
                                                                (.eff
                                                                  (.store ⟨n31, 0, none⟩ (.int .i64 r30.1)
                                                                    (.store ⟨n31, 1, none⟩ (.int .i64 r30.2.1)
                                                                      (.store ⟨n31, 2, none⟩ (.string r30.2.2.1)
                                                                        (.store ⟨n31, 3, none⟩ (.slice r30.2.2.2.1.1 r30.2.2.2.1.2.1 r30.2.2.2.1.2.2)
                                                                          (.back
                                                                            (.undrawn
                                                                              (.fin .normal [(5, .pointer (some ⟨n28, 0, none⟩)), (6, .pointer (some ⟨n31, 0, none⟩))]))))))))))))))))))))
                                        (.both
                                          (.eff
                                            (.new (.cells #[.int .i64 0, .int .i64 0, .string (bytesL []), .slice none 0 0] 24 (0, 0)) (fun n32 =>
                                              .back
                                                (.eff
                                                  (.call 17 #[.agg #[.int .i64 x8, .int .i64 x9, .string s10, .slice l11.1 l11.2.1 l11.2.2]] (.one (.agg [.int .i64, .int .i64, .str, .sl])) (fun r33 =>
                                                    .back
                                                      (.eff
                                                        (.store ⟨n28, 0, none⟩ (.int .i64 r29.1)
                                                          (.store ⟨n28, 1, none⟩ (.int .i64 r29.2.1)
                                                            (.store ⟨n28, 2, none⟩ (.string r29.2.2.1)
                                                              (.store ⟨n28, 3, none⟩ (.slice r29.2.2.2.1.1 r29.2.2.2.1.2.1 r29.2.2.2.1.2.2)
                                                                (.back
                                                                  (.eff
                                                                    (.store ⟨n32, 0, none⟩ (.int .i64 r33.1)
                                                                      (.store ⟨n32, 1, none⟩ (.int .i64 r33.2.1)
                                                                        (.store ⟨n32, 2, none⟩ (.string r33.2.2.1)
                                                                          (.store ⟨n32, 3, none⟩ (.slice r33.2.2.2.1.1 r33.2.2.2.1.2.1 r33.2.2.2.1.2.2)
                                                                            (.back
                                                                              (.undrawn
                                                                                (.fin .normal [(5, .pointer (some ⟨n28, 0, none⟩)), (6, .pointer (some ⟨n32, 0, none⟩))]))))))))))))))))))))
                                          (.triv))))))
                                (.both
                                  (.eff
                                    (.new (.cells #[.int .i64 0, .int .i64 0, .string (bytesL []), .slice none 0 0] 24 (0, 0)) (fun n34 =>
                                      .back
                                        (.eff
                                          (.call 17 #[.agg #[.int .i64 x4, .int .i64 x5, .string s6, .slice l7.1 l7.2.1 l7.2.2]] (.one (.agg [.int .i64, .int .i64, .str, .sl])) (fun r35 =>
                                            .back
                                              (.eff
                                                (.call 17 #[.agg #[.int .i64 x8, .int .i64 x9, .string s10, .slice l11.1 l11.2.1 l11.2.2]] (.one (.agg [.int .i64, .int .i64, .str, .sl])) (fun r36 =>
                                                  .back
                                                    (.eff
                                                      (.store ⟨n28, 0, none⟩ (.int .i64 r35.1)
                                                        (.store ⟨n28, 1, none⟩ (.int .i64 r35.2.1)
                                                          (.store ⟨n28, 2, none⟩ (.string r35.2.2.1)
                                                            (.store ⟨n28, 3, none⟩ (.slice r35.2.2.2.1.1 r35.2.2.2.1.2.1 r35.2.2.2.1.2.2)
                                                              (.back
                                                                (.eff
                                                                  (.store ⟨n34, 0, none⟩ (.int .i64 r36.1)
                                                                    (.store ⟨n34, 1, none⟩ (.int .i64 r36.2.1)
                                                                      (.store ⟨n34, 2, none⟩ (.string r36.2.2.1)
                                                                        (.store ⟨n34, 3, none⟩ (.slice r36.2.2.2.1.1 r36.2.2.2.1.2.1 r36.2.2.2.1.2.2)
                                                                          (.back
                                                                            (.undrawn
                                                                              (.fin .normal [(5, .pointer (some ⟨n28, 0, none⟩)), (6, .pointer (some ⟨n34, 0, none⟩))])))))))))))))))))))))))
                                  (.triv))))))
                        (.both
                          (.eff
                            (.new (.cells #[.int .i64 0, .int .i64 0, .string (bytesL []), .slice none 0 0] 24 (0, 0)) (fun n37 =>
                              .back
                                (.both
                                  (.eff
                                    (.call 17 #[.agg #[.int .i64 x4, .int .i64 x5, .string s6, .slice l7.1 l7.2.1 l7.2.2]] (.one (.agg [.int .i64, .int .i64, .str, .sl])) (fun r38 =>
                                      .back
                                        (.both
                                          (.eff
                                            (.call 17 #[.agg #[.int .i64 x8, .int .i64 x9, .string s10, .slice l11.1 l11.2.1 l11.2.2]] (.one (.agg [.int .i64, .int .i64, .str, .sl])) (fun r39 =>
                                              .back
                                                (.eff
                                                  (.new (.cells #[.int .i64 0, .int .i64 0, .string (bytesL []), .slice none 0 0] 24 (0, 0)) (fun n40 =>
                                                    .back
                                                      (.eff
                                                        (.store ⟨n40, 0, none⟩ (.int .i64 r38.1)
                                                          (.store ⟨n40, 1, none⟩ (.int .i64 r38.2.1)
                                                            (.store ⟨n40, 2, none⟩ (.string r38.2.2.1)
                                                              (.store ⟨n40, 3, none⟩ (.slice r38.2.2.2.1.1 r38.2.2.2.1.2.1 r38.2.2.2.1.2.2)
                                                                (.back
                                                                  (.eff
                                                                    (.store ⟨n37, 0, none⟩ (.int .i64 r39.1)
                                                                      (.store ⟨n37, 1, none⟩ (.int .i64 r39.2.1)
                                                                        (.store ⟨n37, 2, none⟩ (.string r39.2.2.1)
                                                                          (.store ⟨n37, 3, none⟩ (.slice r39.2.2.2.1.1 r39.2.2.2.1.2.1 r39.2.2.2.1.2.2)
                                                                            (.back
                                                                              (.undrawn
                                                                                (.fin .normal [(5, .pointer (some ⟨n40, 0, none⟩)), (6, .pointer (some ⟨n37, 0, none⟩))]))))))))))))))))))))
                                          (.both
                                            (.eff
                                              (.new (.cells #[.int .i64 0, .int .i64 0, .string (bytesL []), .slice none 0 0] 24 (0, 0)) (fun n41 =>
                                                .back
                                                  (.eff
                                                    (.call 17 #[.agg #[.int .i64 x8, .int .i64 x9, .string s10, .slice l11.1 l11.2.1 l11.2.2]] (.one (.agg [.int .i64, .int .i64, .str, .sl])) (fun r42 =>
                                                      .back
                                                        (.eff
                                                          (.store ⟨n41, 0, none⟩ (.int .i64 r38.1)
                                                            (.store ⟨n41, 1, none⟩ (.int .i64 r38.2.1)
                                                              (.store ⟨n41, 2, none⟩ (.string r38.2.2.1)
                                                                (.store ⟨n41, 3, none⟩ (.slice r38.2.2.2.1.1 r38.2.2.2.1.2.1 r38.2.2.2.1.2.2)
                                                                  (.back
                                                                    (.eff
                                                                      (.store ⟨n37, 0, none⟩ (.int .i64 r42.1)
                                                                        (.store ⟨n37, 1, none⟩ (.int .i64 r42.2.1)
                                                                          (.store ⟨n37, 2, none⟩ (.string r42.2.2.1)
                                                                            (.store ⟨n37, 3, none⟩ (.slice r42.2.2.2.1.1 r42.2.2.2.1.2.1 r42.2.2.2.1.2.2)
                                                                              (.back
                                                                                (.undrawn
                                                                                  (.fin .normal [(5, .pointer (some ⟨n41, 0, none⟩)), (6, .pointer (some ⟨n37, 0, none⟩))]))))))))))))))))))))
                                            (.triv))))))
                                  (.both
                                    (.eff
                                      (.new (.cells #[.int .i64 0, .int .i64 0, .string (bytesL []), .slice none 0 0] 24 (0, 0)) (fun n43 =>
                                        .back
                                          (.eff
                                            (.call 17 #[.agg #[.int .i64 x4, .int .i64 x5, .string s6, .slice l7.1 l7.2.1 l7.2.2]] (.one (.agg [.int .i64, .int .i64, .str, .sl])) (fun r44 =>
                                              .back
                                                (.eff
                                                  (.call 17 #[.agg #[.int .i64 x8, .int .i64 x9, .string s10, .slice l11.1 l11.2.1 l11.2.2]] (.one (.agg [.int .i64, .int .i64, .str, .sl])) (fun r45 =>
                                                    .back
                                                      (.eff
                                                        (.store ⟨n43, 0, none⟩ (.int .i64 r44.1)
                                                          (.store ⟨n43, 1, none⟩ (.int .i64 r44.2.1)
                                                            (.store ⟨n43, 2, none⟩ (.string r44.2.2.1)
                                                              (.store ⟨n43, 3, none⟩ (.slice r44.2.2.2.1.1 r44.2.2.2.1.2.1 r44.2.2.2.1.2.2)
                                                                (.back
                                                                  (.eff
                                                                    (.store ⟨n37, 0, none⟩ (.int .i64 r45.1)
                                                                      (.store ⟨n37, 1, none⟩ (.int .i64 r45.2.1)
                                                                        (.store ⟨n37, 2, none⟩ (.string r45.2.2.1)
                                                                          (.store ⟨n37, 3, none⟩ (.slice r45.2.2.2.1.1 r45.2.2.2.1.2.1 r45.2.2.2.1.2.2)
                                                                            (.back
                                                                              (.undrawn
                                                                                (.fin .normal [(5, .pointer (some ⟨n43, 0, none⟩)), (6, .pointer (some ⟨n37, 0, none⟩))])))))))))))))))))))))))
                                    (.triv))))))
                          (.triv)))))))))))) := by kernel_rfl
abbrev fx8_56 (n1 : Nat) (n2 : Nat) (u46 : Nat × Nat × Unit) (x55 : Int) : List (Tmp × Value) := [(2, .pointer (some ⟨n1, 0, none⟩)), (3, .pointer (some ⟨n2, 0, none⟩)), (5, .pointer (some ⟨u46.1, 0, none⟩)), (6, .pointer (some ⟨u46.2.1, 0, none⟩)), (7, .int .i64 x55)]
abbrev mx8_56 : List (Tmp × Comp) := [(32, .leaf .bool)]
def s8_56 : Script := .sym (.lit (.lit (.lit (.lit (.lit (.lit (.lit (.lit (.lit .nil))))))))) (.lit (.lit (.sym (.lit (.lit (.lit (.lit (.lit (.lit .nil)))))) (.ld (.int .i64) (.ld (.int .i64) (.ld .str (.ld .sl (.lit (.ld (.int .i64) (.ld (.int .i64) (.ld .str (.ld .sl (.lit (.cl (.one (.leaf (.int .i64))) (.lit (.lit (.lit (.lit .nil))))))))))))))))))
theorem t8_56 (n1 : Nat) (n2 : Nat) (u46 : Nat × Nat × Unit) (x55 : Int) (g : Nat → Value) : pieceT Tryd.prog (at_ Tryd.f8 [1, 1, 1, 0, 0]) 99 (fx8_56 n1 n2 u46 x55) g (mx8_56.map (·.1)) [] [] s8_56 =
  .br (Decidable.decide (x55 < -1))
    (.fin .normal [(32, .bool true)])
    (.br (Decidable.decide (x55 > 1))
      (.fin .normal [(32, .bool true)])
      (.load ⟨n2, 0, none⟩ (.int .i64) (fun x57 =>
        .load ⟨n2, 1, none⟩ (.int .i64) (fun x58 =>
          .load ⟨n2, 2, none⟩ .str (fun s59 =>
            .load ⟨n2, 3, none⟩ .sl (fun l60 =>
              .load ⟨n1, 0, none⟩ (.int .i64) (fun x61 =>
                .load ⟨n1, 1, none⟩ (.int .i64) (fun x62 =>
                  .load ⟨n1, 2, none⟩ .str (fun s63 =>
                    .load ⟨n1, 3, none⟩ .sl (fun l64 =>
                      .call 9 #[.agg #[.int .i64 x57, .int .i64 x58, .string s59, .slice l60.1 l60.2.1 l60.2.2], .agg #[.int .i64 x61, .int .i64 x62, .string s63, .slice l64.1 l64.2.1 l64.2.2]] (.one (.leaf (.int .i64))) (fun x65 =>
                        .fin .normal [(32, .bool (x65 != IntKind.i64.wrap (0 - x55)))]))))))))))) := by kernel_rfl
abbrev fx8_96 (x55 : Int) (s71 : ByteArray) (s76 : ByteArray) (l85 : Option Addr × Nat × Nat) (l86 : Option Addr × Nat × Nat) : List (Tmp × Value) := [(7, .int .i64 x55), (8, .string s71), (9, .string s76), (10, .slice l85.1 l85.2.1 l85.2.2), (11, .slice l86.1 l86.2.1 l86.2.2)]
abbrev mx8_96 : List (Tmp × Comp) := [(4, .leaf .bool)]
def s8_96 : Script := .sym (.lit (.lit (.lit (.sym (.lit (.rn (.one (.leaf .str)) (.lit (.lit (.rn (.one (.leaf .str)) (.lit (.lit .nil))))))) (.lit (.lit (.lit (.lit (.lit .nil))))))))) (.lit (.lit (.lit (.lit (.lit (.lit (.lit (.lit (.lit .nil)))))))))
theorem t8_96 (x55 : Int) (s71 : ByteArray) (s76 : ByteArray) (l85 : Option Addr × Nat × Nat) (l86 : Option Addr × Nat × Nat) (g : Nat → Value) : pieceT Tryd.prog (at_ Tryd.f8 [1, 1, 1, 1, 1, 1, 0, 1, 0, 0]) 99 (fx8_96 x55 s71 s76 l85 l86) g (mx8_96.map (·.1)) [] [] s8_96 =
  .br (x55 == 0)
    (.br (s71.toList == s76.toList)
      (.run (vNext (convert 29 9 (.slice l85.1 l85.2.1 l85.2.2))) (.one (.leaf .str)) (fun s97 =>
        .run (vNext (convert 29 9 (.slice l86.1 l86.2.1 l86.2.2))) (.one (.leaf .str)) (fun s98 =>
          .fin .normal [(4, .bool (s97.toList == s98.toList))])))
      (.fin .normal [(4, .bool false)]))
    (.fin .normal [(4, .bool false)]) := by kernel_rfl
abbrev fx8_100 (u46 : Nat × Nat × Unit) (x55 : Int) (s71 : ByteArray) (s76 : ByteArray) (l85 : Option Addr × Nat × Nat) (l86 : Option Addr × Nat × Nat) : List (Tmp × Value) := [(5, .pointer (some ⟨u46.1, 0, none⟩)), (6, .pointer (some ⟨u46.2.1, 0, none⟩)), (7, .int .i64 x55), (8, .string s71), (9, .string s76), (10, .slice l85.1 l85.2.1 l85.2.2), (11, .slice l86.1 l86.2.1 l86.2.2)]
abbrev mx8_100 : List (Tmp × Comp) := [(74, .leaf .bool)]
def s8_100 : Script := .sym (.lit (.lit (.lit (.lit (.lit (.lit (.lit (.lit (.lit (.lit (.lit .nil))))))))))) (.lit (.lit (.lit (.sym (.lit (.lit (.lit (.lit (.lit (.lit (.lit .nil))))))) (.lit (.lit (.cl (.one (.leaf .bool)) (.lit (.sym (.lit (.lit (.lit .nil))) (.lit (.lit (.cl (.one (.leaf .bool)) (.lit .nil)))))))))))))
theorem t8_100 (u46 : Nat × Nat × Unit) (x55 : Int) (s71 : ByteArray) (s76 : ByteArray) (l85 : Option Addr × Nat × Nat) (l86 : Option Addr × Nat × Nat) (g : Nat → Value) : pieceT Tryd.prog (at_ Tryd.f8 [1, 1, 1, 1, 1, 1, 1, 0, 0]) 99 (fx8_100 u46 x55 s71 s76 l85 l86) g (mx8_100.map (·.1)) [] [] s8_100 =
  .br (x55 == 0)
    (.fin .normal [(74, .bool true)])
    (.br (s71.toList == s76.toList)
      (.fin .normal [(74, .bool true)])
      (.call 25 #[.slice l85.1 l85.2.1 l85.2.2, .slice l86.1 l86.2.1 l86.2.2] (.one (.leaf .bool)) (fun b101 =>
        .br b101
          (.fin .normal [(74, .bool true)])
          (.call 25 #[.slice l86.1 l86.2.1 l86.2.2, .slice l85.1 l85.2.1 l85.2.2] (.one (.leaf .bool)) (fun b102 =>
            .fin .normal [(74, .bool b102)]))))) := by kernel_rfl
def s8 : Script := .ct 1 [2, 3] mx8_3 (.ld (.int .i64) (.ld (.int .i64) (.ld .str (.ld .sl (.ld (.int .i64) (.ld (.int .i64) (.ld .str (.ld .sl (.cl (.one (.leaf (.int .i64))) (.ct 1 [2, 3, 5, 6, 7] mx8_56 (.sym .nil (.qt (.ld (.int .i64) (.ld (.int .i64) (.ld .str (.ld .sl (.cl (.one (.leaf .str)) (.ld (.int .i64) (.ld (.int .i64) (.ld .str (.ld .sl (.cl (.one (.leaf .str)) (.hd0 (.hq 0 (.ld (.int .i64) (.ld (.int .i64) (.ld .str (.ld .sl (.hq 2 (.ld (.int .i64) (.ld (.int .i64) (.ld .str (.ld .sl (.he 1 (.cl (.one (.leaf .sl)) (.he 3 (.cl (.one (.leaf .sl)) (.hq 4 (.hq 5 (.ld (.int .i64) (.ld (.int .i64) (.ld .str (.ld .sl (.ld (.int .i64) (.ld (.int .i64) (.ld .str (.ld .sl (.cl (.one (.leaf .bool)) (.sym (.ct 0 [7, 8, 9, 10, 11] mx8_96 .nil) (.ct 1 [5, 6, 7, 8, 9, 10, 11] mx8_100 (.sym .nil (.ld (.int .i64) (.ld (.int .i64) (.sym (.ld (.int .i64) (.ld (.int .i64) .nil)) (.ld (.int .i64) (.sym (.ld (.int .i64) (.ld (.int .i64) .nil)) .nil))))))))))))))))))))))))))))))))))))))))))))))))))))))))
theorem t8 (qx0_0 : Int) (qx0_1 : Int) (qs0_2 : ByteArray) (qa0_3 : Option Addr) (qn0_3 : Nat) (qc0_3 : Nat) (qx1_0 : Int) (qx1_1 : Int) (qs1_2 : ByteArray) (qa1_3 : Option Addr) (qn1_3 : Nat) (qc1_3 : Nat) : fnT Tryd.prog Tryd.f8 #[.agg #[.int .i64 qx0_0, .int .i64 qx0_1, .string qs0_2, .slice qa0_3 qn0_3 qc0_3], .agg #[.int .i64 qx1_0, .int .i64 qx1_1, .string qs1_2, .slice qa1_3 qn1_3 qc1_3]] s8 =
  .new (.cells #[.int .i64 qx0_0, .int .i64 qx0_1, .string qs0_2, .slice qa0_3 qn0_3 qc0_3] 24 (0, 0)) (fun n1 =>
    .new (.cells #[.int .i64 qx1_0, .int .i64 qx1_1, .string qs1_2, .slice qa1_3 qn1_3 qc1_3] 24 (0, 0)) (fun n2 =>
      .cut (at_ Tryd.f8 [1, 0]) 99 (fx8_3 n1 n2) mx8_3 (fun u46 g46 =>
        .load ⟨n1, 0, none⟩ (.int .i64) (fun x47 =>
          .load ⟨n1, 1, none⟩ (.int .i64) (fun x48 =>
            .load ⟨n1, 2, none⟩ .str (fun s49 =>
              .load ⟨n1, 3, none⟩ .sl (fun l50 =>
                .load ⟨n2, 0, none⟩ (.int .i64) (fun x51 =>
                  .load ⟨n2, 1, none⟩ (.int .i64) (fun x52 =>
                    .load ⟨n2, 2, none⟩ .str (fun s53 =>
                      .load ⟨n2, 3, none⟩ .sl (fun l54 =>
                        .call 9 #[.agg #[.int .i64 x47, .int .i64 x48, .string s49, .slice l50.1 l50.2.1 l50.2.2], .agg #[.int .i64 x51, .int .i64 x52, .string s53, .slice l54.1 l54.2.1 l54.2.2]] (.one (.leaf (.int .i64))) (fun x55 =>
                          .cut (at_ Tryd.f8 [1, 1, 1, 0, 0]) 99 (fx8_56 n1 n2 u46 x55) mx8_56 (fun u66 g66 =>
                            .br u66.1
                              (.done (.returned (.bool false)))
                              (.drawn
                                (.load ⟨n1, 0, none⟩ (.int .i64) (fun x67 =>
                                  .load ⟨n1, 1, none⟩ (.int .i64) (fun x68 =>
                                    .load ⟨n1, 2, none⟩ .str (fun s69 =>
                                      .load ⟨n1, 3, none⟩ .sl (fun l70 =>
                                        .call 21 #[.agg #[.int .i64 x67, .int .i64 x68, .string s69, .slice l70.1 l70.2.1 l70.2.2]] (.one (.leaf .str)) (fun s71 =>
                                          .load ⟨n2, 0, none⟩ (.int .i64) (fun x72 =>
                                            .load ⟨n2, 1, none⟩ (.int .i64) (fun x73 =>
                                              .load ⟨n2, 2, none⟩ .str (fun s74 =>
                                                .load ⟨n2, 3, none⟩ .sl (fun l75 =>
                                                  .call 21 #[.agg #[.int .i64 x72, .int .i64 x73, .string s74, .slice l75.1 l75.2.1 l75.2.2]] (.one (.leaf .str)) (fun s76 =>
                                                    .undrawn
                                                      (.hdrawn
                                                        (.load ⟨n1, 0, none⟩ (.int .i64) (fun x77 =>
                                                          .load ⟨n1, 1, none⟩ (.int .i64) (fun x78 =>
                                                            .load ⟨n1, 2, none⟩ .str (fun s79 =>
                                                              .load ⟨n1, 3, none⟩ .sl (fun l80 =>
                                                                .load ⟨n2, 0, none⟩ (.int .i64) (fun x81 =>
                                                                  .load ⟨n2, 1, none⟩ (.int .i64) (fun x82 =>
                                                                    .load ⟨n2, 2, none⟩ .str (fun s83 =>
                                                                      .load ⟨n2, 3, none⟩ .sl (fun l84 =>
                                                                        .eff
                                                                          (.call 14 #[.agg #[.int .i64 x77, .int .i64 x78, .string s79, .slice l80.1 l80.2.1 l80.2.2]] (.one (.leaf .sl)) (fun l85 =>
                                                                            .back
                                                                              (.eff
                                                                                (.call 14 #[.agg #[.int .i64 x81, .int .i64 x82, .string s83, .slice l84.1 l84.2.1 l84.2.2]] (.one (.leaf .sl)) (fun l86 =>
                                                                                  .back
                                                                                    (.undrawn
                                                                                      (.load ⟨u46.1, 0, none⟩ (.int .i64) (fun x87 =>
                                                                                        .load ⟨u46.1, 1, none⟩ (.int .i64) (fun x88 =>
                                                                                          .load ⟨u46.1, 2, none⟩ .str (fun s89 =>
                                                                                            .load ⟨u46.1, 3, none⟩ .sl (fun l90 =>
                                                                                              .load ⟨u46.2.1, 0, none⟩ (.int .i64) (fun x91 =>
                                                                                                .load ⟨u46.2.1, 1, none⟩ (.int .i64) (fun x92 =>
                                                                                                  .load ⟨u46.2.1, 2, none⟩ .str (fun s93 =>
                                                                                                    .load ⟨u46.2.1, 3, none⟩ .sl (fun l94 =>
                                                                                                      .call 12 #[.agg #[.int .i64 x87, .int .i64 x88, .string s89, .slice l90.1 l90.2.1 l90.2.2], .agg #[.int .i64 x91, .int .i64 x92, .string s93, .slice l94.1 l94.2.1 l94.2.2]] (.one (.leaf .bool)) (fun b95 =>
                                                                                                        .br b95
                                                                                                          (.cut (at_ Tryd.f8 [1, 1, 1, 1, 1, 1, 0, 1, 0, 0]) 99 (fx8_96 x55 s71 s76 l85 l86) mx8_96 (fun u99 g99 =>
                                                                                                            .done (.returned (.bool u99.1))))
                                                                                                          (.cut (at_ Tryd.f8 [1, 1, 1, 1, 1, 1, 1, 0, 0]) 99 (fx8_100 u46 x55 s71 s76 l85 l86) mx8_100 (fun u103 g103 =>
                                                                                                            .br u103.1
                                                                                                              (.done (.returned (.bool false)))
                                                                                                              (.load ⟨u46.1, 0, none⟩ (.int .i64) (fun x104 =>
                                                                                                                .load ⟨u46.2.1, 0, none⟩ (.int .i64) (fun x105 =>
                                                                                                                  .br (x104 != x105)
                                                                                                                    (.load ⟨u46.1, 0, none⟩ (.int .i64) (fun x106 =>
                                                                                                                      .load ⟨u46.2.1, 0, none⟩ (.int .i64) (fun x107 =>
                                                                                                                        .done (.returned (.bool (Decidable.decide (x106 < x107) == Decidable.decide (x55 < 0)))))))
                                                                                                                    (.load ⟨u46.1, 0, none⟩ (.int .i64) (fun x108 =>
                                                                                                                      .br (x108 == 1)
                                                                                                                        (.load ⟨u46.1, 1, none⟩ (.int .i64) (fun x109 =>
                                                                                                                          .load ⟨u46.2.1, 1, none⟩ (.int .i64) (fun x110 =>
                                                                                                                            .done (.returned (.bool (Decidable.decide (x109 < x110) == Decidable.decide (x55 < 0)))))))
                                                                                                                        (.done (.returned (.bool true))))))))))))))))))))))))))))))))))))))))))))))))))))))))))))) := by kernel_rfl

theorem pair_clean {R : Ending → World → Prop} {Q : Exit → List (Tmp × Value) → World → Prop} (n1 n2 : Nat) (w : World) (x y : VT) (p : Option Addr) (m c : Nat) (q : Option Addr) (m' c' : Nat) (hx : IsV w x p m c) (hy : IsV w y q m' c') (b1 : Blk w n1 (cellsV x p m c) 24) (b2 : Blk w n2 (cellsV y q m' c') 24)
    {px : Option Addr} {mx cx : Nat} (ex : (if checkV x = 0 then valV x p m c else valV noneV none 0 0) = valV (validV x) px mx cx) {py : Option Addr} {my cy : Nat} (ey : (if checkV y = 0 then valV y q m' c' else valV noneV none 0 0) = valV (validV y) py my cy)
    {k : MVars mx8_3 → (Nat → Value) → T} (hk : ∀ u g w', Ch No w w' → Blk w' u.1 (cellsV (validV x) px mx cx) 24 → Blk w' u.2.1 (cellsV (validV y) py my cy) 24 → wpT Tryd.prog R Q (k u g) .pl w') :
    wpT Tryd.prog R Q (.cut (at_ Tryd.f8 [1, 0]) 99 (fx8_3 n1 n2) mx8_3 k) .pl w := by
  refine cut_i mixed s8_3 (fun (v : Nat × Nat × Unit) w' => Ch No w w' ∧ Blk w' v.1 (cellsV (validV x) px mx cx) 24 ∧ Blk w' v.2.1 (cellsV (validV y) py my cy) 24) (by kernel_rfl) (fun g => ?_) (fun u g w' ⟨h1, h2, h3⟩ => hk u g w' h1 h2 h3)
  rw [t8_3]
  refine ⟨Ch No w, (Ch.refl _ _).drew, ?_⟩
  refine lh_int (fun w' h => (b1.ch h (fun h => h)).cell 0) (lh_int (fun w' h => (b1.ch h (fun h => h)).cell 1) (lh_str (fun w' h => (b1.ch h (fun h => h)).cell 2) (lh_sl (fun w' h => (b1.ch h (fun h => h)).cell 3) ?_)))
  refine lh_int (fun w' h => (b2.ch h (fun h => h)).cell 0) (lh_int (fun w' h => (b2.ch h (fun h => h)).cell 1) (lh_str (fun w' h => (b2.ch h (fun h => h)).cell 2) (lh_sl (fun w' h => (b2.ch h (fun h => h)).cell 3) ?_)))
  have C : Ctx w w.drew [] := (Ctx.start w).no (Ch.refl _ _).drew
  repeat' (first
    | exact trivial
    | refine both_i ?_ ?_
    | refine c17 hx ex C fun w1 C => ?_
    | refine c17 hy ey C fun w1 C => ?_
    | refine cnew C fun b w1 C => ?_
    | refine cst4 .head C rfl rfl rfl rfl rfl fun w1 C => ?_
    | refine cst4 (.tail .head) C rfl rfl rfl rfl rfl fun w1 C => ?_
    | exact ⟨rfl, (_, _, ()), rfl, C.ch, C.blk (.head _), C.blk (.tail _ (.head _))⟩
    | exact ⟨rfl, (_, _, ()), rfl, C.ch, C.blk (.tail _ (.head _)), C.blk (.head _)⟩)

/-- What pair answers. -/
def pairV (x y : VT) : Bool :=
  if cmpV x y < -1 ∨ cmpV x y > 1 ∨ cmpV y x ≠ - cmpV x y then false
  else if sameV (validV x) (validV y) = true then decide (cmpV x y = 0 ∧ printTxt x = printTxt y ∧ encodeV x = encodeV y)
  else if cmpV x y = 0 ∨ printTxt x = printTxt y ∨ encodeV y <+: encodeV x ∨ encodeV x <+: encodeV y then false
  else if (validV x).kind ≠ (validV y).kind then decide ((validV x).kind < (validV y).kind) == decide (cmpV x y < 0)
  else if (validV x).kind = 1 then decide ((validV x).int < (validV y).int) == decide (cmpV x y < 0)
  else true
theorem ba_list (a b : List UInt8) : ((⟨a.toArray⟩ : ByteArray).toList == (⟨b.toArray⟩ : ByteArray).toList) = decide (a = b) := by
  rw [ByteArray.toList_eq, ByteArray.toList_eq, Bool.eq_iff_iff, beq_iff_eq, decide_eq_true_eq]
theorem RowB.cap {w : World} {base : Nat} {p : Option Addr} {n c : Nat} {bs : List UInt8} (h : RowB w base p n c bs) : n ≤ c := by
  rcases h.2 with ⟨e, rfl⟩ | ⟨g, cap, cur, e, _, _, hnc, _⟩
  · omega
  · simp only [Value.slice.injEq, true_and] at e
    omega
set_option maxHeartbeats 1000000 in
theorem pair_any (x y : VT) (p : Option Addr) (m c : Nat) (q : Option Addr) (m' c' : Nat) (w : World) (hx : IsV w x p m c) (hy : IsV w y q m' c') (fx : Fit x) (fy : Fit y) (hT : Tabs w) (h7g : 7 ≤ w.heap.size) :
    Calls Tryd.prog 8 #[valV x p m c, valV y q m' c'] w fun e w' => e = .returned (.bool (pairV x y)) ∧ Ch No w w' := by
  refine calls_of_fnT mixed Tryd.func8 (s := s8) ?_
  unfold valV
  rw [t8]
  refine nw fun w1 h1 z1 b1 => nw fun w2 h2 z2 b2 => ?_
  have B1 := b1.ch h2 (fun h => h)
  have H : Ch No w w2 := h1.trans h2
  obtain ⟨px, mx, cx, vx, ex⟩ := valid_is hx
  obtain ⟨py, my, cy, vy, ey⟩ := valid_is hy
  refine pair_clean _ _ w2 x y p m c q m' c' (hx.no H) (hy.no H) B1 b2 ex ey fun u g w3 h3 ux uy => ?_
  have H3 := H.trans h3
  have A3 := B1.ch h3 (fun h => h)
  have D3 := b2.ch h3 (fun h => h)
  refine ld_int (A3.cell 0) (ld_int (A3.cell 1) (ld_str (A3.cell 2) (ld_sl (A3.cell 3) (ld_int (D3.cell 0) (ld_int (D3.cell 1) (ld_str (D3.cell 2) (ld_sl (D3.cell 3) ?_)))))))
  refine cl_i (compare_any x y p m c q m' c' w3 (hx.no H3) (hy.no H3)) ?_
  rintro e w4 ⟨rfl, h4⟩
  refine ⟨_, rfl, ?_⟩
  have H4 := H3.trans h4
  have A4 := A3.ch h4 (fun h => h)
  have D4 := D3.ch h4 (fun h => h)
  refine cut_i mixed s8_56 (fun (v : Bool × Unit) w' => Ch No w4 w' ∧ v.1 = decide (cmpV x y < -1 ∨ cmpV x y > 1 ∨ cmpV y x ≠ - cmpV x y)) (by kernel_rfl) (fun g => ?_) ?_
  · rw [t8_56]
    refine br_both (fun e => ⟨rfl, (true, ()), rfl, Ch.refl _ _, ?_⟩) fun e => br_both (fun e' => ⟨rfl, (true, ()), rfl, Ch.refl _ _, ?_⟩) fun e' => ?_
    · exact (decide_eq_true (.inl (of_decide_eq_true e))).symm
    · exact (decide_eq_true (.inr (.inl (of_decide_eq_true e')))).symm
    · have e := of_decide_eq_false e
      have e' := of_decide_eq_false e'
      refine ld_int (D4.cell 0) (ld_int (D4.cell 1) (ld_str (D4.cell 2) (ld_sl (D4.cell 3) (ld_int (A4.cell 0) (ld_int (A4.cell 1) (ld_str (A4.cell 2) (ld_sl (A4.cell 3) ?_)))))))
      refine cl_i (compare_any y x q m' c' p m c w4 (hy.no H4) (hx.no H4)) ?_
      rintro e'' w5 ⟨rfl, h5⟩
      refine ⟨_, rfl, rfl, (cmpV y x != IntKind.i64.wrap (0 - cmpV x y), ()), rfl, h5, ?_⟩
      have hw : IntKind.i64.wrap (0 - cmpV x y) = - cmpV x y := by rw [IntKind.wrap_i64]; omega
      dsimp only
      rw [hw, Bool.eq_iff_iff, bne_iff_ne, decide_eq_true_eq]
      exact ⟨fun h => .inr (.inr h), fun h => (h.resolve_left e).resolve_left e'⟩
  rintro ⟨b0, ⟨⟩⟩ g5 w5 ⟨h5, hb0⟩
  dsimp only at hb0
  subst hb0
  have H5 := H4.trans h5
  unfold pairV
  refine br_both (fun e => ?_) fun e => ?_
  · rw [if_pos (of_decide_eq_true e)]; exact ⟨rfl, H5⟩
  rw [if_neg (of_decide_eq_false e)]
  have A5 := A4.ch h5 (fun h => h)
  have D5 := D4.ch h5 (fun h => h)
  refine ⟨fun w'' => Ch No w5 w'', (Ch.refl _ _).drew, ?_⟩
  refine ⟨x.kind, fun w'' h => (A5.ch h (fun h => h)).cell 0, x.int, fun w'' h => (A5.ch h (fun h => h)).cell 1, x.text, fun w'' h => (A5.ch h (fun h => h)).cell 2, (p, m, c), fun w'' h => (A5.ch h (fun h => h)).cell 3, ?_⟩
  refine ⟨⟨(printTxt x).toArray⟩, fun w'' h => (Print_any x p m c w'' (hx.no (H5.trans h)) fx (hT.no (H5.trans h)) (Nat.le_trans h7g (H5.trans h).size)).mono fun e w3 ⟨he, h3⟩ => ⟨he, h.trans h3⟩, ?_⟩
  refine ⟨y.kind, fun w'' h => (D5.ch h (fun h => h)).cell 0, y.int, fun w'' h => (D5.ch h (fun h => h)).cell 1, y.text, fun w'' h => (D5.ch h (fun h => h)).cell 2, (q, m', c'), fun w'' h => (D5.ch h (fun h => h)).cell 3, ?_⟩
  refine ⟨⟨(printTxt y).toArray⟩, fun w'' h => (Print_any y q m' c' w'' (hy.no (H5.trans h)) fy (hT.no (H5.trans h)) (Nat.le_trans h7g (H5.trans h).size)).mono fun e w3 ⟨he, h3⟩ => ⟨he, h.trans h3⟩, ?_⟩
  intro w6 h6
  have H6 := H5.trans h6
  have A6 := A5.ch h6 (fun h => h)
  have D6 := D5.ch h6 (fun h => h)
  refine ⟨Ch No w6, (Ch.refl _ _).drew, ?_⟩
  refine lh_int (fun w' h => (A6.ch h (fun h => h)).cell 0) (lh_int (fun w' h => (A6.ch h (fun h => h)).cell 1) (lh_str (fun w' h => (A6.ch h (fun h => h)).cell 2) (lh_sl (fun w' h => (A6.ch h (fun h => h)).cell 3) ?_)))
  refine lh_int (fun w' h => (D6.ch h (fun h => h)).cell 0) (lh_int (fun w' h => (D6.ch h (fun h => h)).cell 1) (lh_str (fun w' h => (D6.ch h (fun h => h)).cell 2) (lh_sl (fun w' h => (D6.ch h (fun h => h)).cell 3) ?_)))
  have hd : Ch No w6 w6.drew := (Ch.refl _ _).drew
  refine cl_i (md := .ef (Ch No w6)) (Encode_any x p m c w6.drew (hx.no (H6.trans hd)) fx) ?_
  rintro e7 w7 ⟨q7, n7, d7, rfl, r7, h7⟩
  refine ⟨(q7, n7, d7), rfl, bk (hd.trans h7) ?_⟩
  refine cl_i (md := .ef (Ch No w6)) (Encode_any y q m' c' w7 (hy.no (H6.trans (hd.trans h7))) fy) ?_
  rintro e8 w8 ⟨q8, n8, d8, rfl, r8, h8⟩
  refine ⟨(q8, n8, d8), rfl, bk (hd.trans (h7.trans h8)) ?_⟩
  have r7' := Row.no r7 h8
  have H8 := H6.trans (hd.trans (h7.trans h8))
  have h38 : Ch No w3 w8 := h4.trans (h5.trans (h6.trans (hd.trans (h7.trans h8))))
  have X := ux.ch h38 (fun h => h)
  have Y := uy.ch h38 (fun h => h)
  refine ld_int (X.cell 0) (ld_int (X.cell 1) (ld_str (X.cell 2) (ld_sl (X.cell 3) (ld_int (Y.cell 0) (ld_int (Y.cell 1) (ld_str (Y.cell 2) (ld_sl (Y.cell 3) ?_)))))))
  refine cl_i (same_any _ (validV x) (validV y) px mx cx py my cy w8 (Nat.lt_succ_self _) (vx w8 H8) (vy w8 H8)) ?_
  rintro e9 w9 ⟨rfl, h9⟩
  have H9 := H8.trans h9
  have a1 := RowB.at (Row.no r7' h9)
  have a2 := RowB.at (Row.no r8 h9)
  refine ⟨_, rfl, br_both (fun es => ?_) fun es => ?_⟩
  · rw [if_pos es]
    refine cut_i mixed s8_96 (fun (v : Bool × Unit) w' => w' = w9 ∧ v.1 = decide (cmpV x y = 0 ∧ printTxt x = printTxt y ∧ encodeV x = encodeV y)) (by kernel_rfl) (fun g => ?_) (fun v g w' ⟨hw, hv⟩ => by rw [hv, hw]; exact ⟨rfl, H9⟩)
    rw [t8_96, ba_list]
    refine br_both (fun e => br_both (fun e' => cv_b a1 (cv_b a2 ⟨rfl, (_, ()), rfl, rfl, ?_⟩)) fun e' => ⟨rfl, (false, ()), rfl, rfl, ?_⟩) fun e => ⟨rfl, (false, ()), rfl, rfl, ?_⟩
    · have e : cmpV x y = 0 := by simpa using e
      have e' := of_decide_eq_true e'
      dsimp only
      rw [ba_list]
      exact decide_eq_decide.2 ⟨fun h => ⟨e, e', h⟩, fun h => h.2.2⟩
    · have e' := of_decide_eq_false e'
      exact (decide_eq_false fun h => e' h.2.1).symm
    · have e : ¬ cmpV x y = 0 := by simpa using e
      exact (decide_eq_false fun h => e h.1).symm
  rw [if_neg (by rw [es]; simp)]
  refine cut_i mixed s8_100 (fun (v : Bool × Unit) w' => Ch No w9 w' ∧ v.1 = decide (cmpV x y = 0 ∨ printTxt x = printTxt y ∨ encodeV y <+: encodeV x ∨ encodeV x <+: encodeV y)) (by kernel_rfl) (fun g => ?_) ?_
  · rw [t8_100, ba_list]
    refine br_both (fun e => ⟨rfl, (true, ()), rfl, Ch.refl _ _, ?_⟩) fun e => br_both (fun e' => ⟨rfl, (true, ()), rfl, Ch.refl _ _, ?_⟩) fun e' => ?_
    · have e : cmpV x y = 0 := by simpa using e
      exact (decide_eq_true (.inl e)).symm
    · exact (decide_eq_true (.inr (.inl (of_decide_eq_true e')))).symm
    have e : ¬ cmpV x y = 0 := by simpa using e
    have e' := of_decide_eq_false e'
    refine cl_i (begins_any w9 q7 n7 d7 q8 n8 d8 _ _ a1 a2 r7.cap) ?_
    rintro e1 w10 ⟨rfl, h10⟩
    refine ⟨_, rfl, br_both (fun e'' => ⟨rfl, (true, ()), rfl, h10, ?_⟩) fun e'' => ?_⟩
    · exact (decide_eq_true (.inr (.inr (.inl (of_decide_eq_true e''))))).symm
    have e'' := of_decide_eq_false e''
    refine cl_i (begins_any w10 q8 n8 d8 q7 n7 d7 _ _ (a2.no h10) (a1.no h10) r8.cap) ?_
    rintro e1 w11 ⟨rfl, h11⟩
    refine ⟨_, rfl, rfl, (_, ()), rfl, h10.trans h11, ?_⟩
    dsimp only
    exact decide_eq_decide.2 ⟨fun h => .inr (.inr (.inr h)), fun h => ((h.resolve_left e).resolve_left e').resolve_left e''⟩
  rintro ⟨b1', ⟨⟩⟩ g10 w10 ⟨h10, hb1⟩
  dsimp only at hb1
  subst hb1
  have H10 := H9.trans h10
  refine br_both (fun e => ?_) fun e => ?_
  · rw [if_pos (of_decide_eq_true e)]; exact ⟨rfl, H10⟩
  rw [if_neg (of_decide_eq_false e)]
  have X' := X.ch (h9.trans h10) (fun h => h)
  have Y' := Y.ch (h9.trans h10) (fun h => h)
  refine ld_int (X'.cell 0) (ld_int (Y'.cell 0) (br_both (fun e => ?_) fun e => ?_))
  · rw [bne_iff_ne] at e
    rw [if_pos e]
    exact ld_int (X'.cell 0) (ld_int (Y'.cell 0) ⟨rfl, H10⟩)
  · have e : (validV x).kind = (validV y).kind := by simpa using e
    rw [if_neg (fun h => h e)]
    refine ld_int (X'.cell 0) (br_both (fun e => ?_) fun e => ?_)
    · have e : (validV x).kind = 1 := by simpa using e
      rw [if_pos e]
      exact ld_int (X'.cell 1) (ld_int (Y'.cell 1) ⟨rfl, H10⟩)
    · have e : ¬ (validV x).kind = 1 := by simpa using e
      rw [if_neg e]
      exact ⟨rfl, H10⟩
end Go.Proofs.YtjellmblammiaaaDoor
