/- ValueOrder: the walk. -/
import Derived.Test.YtjellmblammiaaaDoorInj
namespace Go.Proofs.YtjellmblammiaaaDoor
open Go Tr
set_option maxRecDepth 100000
/-! the tree of function 3 -/
abbrev fx3_18 (n1 : Nat) (n2 : Nat) (n3 : Nat) : List (Tmp × Value) := [(3, .pointer (some ⟨n1, 0, none⟩)), (4, .pointer (some ⟨n2, 0, none⟩)), (5, .pointer (some ⟨n3, 0, none⟩))]
abbrev mx3_18 : List (Tmp × Comp) := [(37, .leaf .bool)]
def s3_18 : Script := .ld (.int .i64) (.ld (.int .i64) (.ld .str (.ld .sl (.ld (.int .i64) (.ld (.int .i64) (.ld .str (.ld .sl (.cl (.one (.leaf .bool)) (.sym (.lit (.lit (.lit (.lit (.lit (.lit (.lit (.lit (.lit (.lit (.lit (.lit (.lit (.lit .nil)))))))))))))) (.ld (.int .i64) (.ld (.int .i64) (.ld .str (.ld .sl (.lit (.ld (.int .i64) (.ld (.int .i64) (.ld .str (.ld .sl (.lit (.cl (.one (.leaf .bool)) (.lit (.lit (.sym (.lit (.lit (.lit (.lit (.lit (.lit (.lit (.lit (.lit .nil))))))))) (.ld (.int .i64) (.ld (.int .i64) (.ld .str (.ld .sl (.lit (.ld (.int .i64) (.ld (.int .i64) (.ld .str (.ld .sl (.lit (.cl (.one (.leaf .bool)) (.lit (.lit (.sym (.lit (.lit (.lit (.lit .nil)))) (.ld (.int .i64) (.ld (.int .i64) (.ld .str (.ld .sl (.lit (.ld (.int .i64) (.ld (.int .i64) (.ld .str (.ld .sl (.lit (.cl (.one (.leaf .bool)) (.lit (.lit .nil))))))))))))))))))))))))))))))))))))))))))))))))))
theorem t3_18 (n1 : Nat) (n2 : Nat) (n3 : Nat) (g : Nat → Value) : pieceT Tryd.prog (at_ Tryd.f3 [1, 1, 0, 0]) 74 (fx3_18 n1 n2 n3) g (mx3_18.map (·.1)) [] [] s3_18 =
  .load ⟨n1, 0, none⟩ (.int .i64) (fun x19 =>
    .load ⟨n1, 1, none⟩ (.int .i64) (fun x20 =>
      .load ⟨n1, 2, none⟩ .str (fun s21 =>
        .load ⟨n1, 3, none⟩ .sl (fun l22 =>
          .load ⟨n2, 0, none⟩ (.int .i64) (fun x23 =>
            .load ⟨n2, 1, none⟩ (.int .i64) (fun x24 =>
              .load ⟨n2, 2, none⟩ .str (fun s25 =>
                .load ⟨n2, 3, none⟩ .sl (fun l26 =>
                  .call 8 #[.agg #[.int .i64 x19, .int .i64 x20, .string s21, .slice l22.1 l22.2.1 l22.2.2], .agg #[.int .i64 x23, .int .i64 x24, .string s25, .slice l26.1 l26.2.1 l26.2.2]] (.one (.leaf .bool)) (fun b27 =>
                    .br (!b27)
                      (.fin .normal [(37, .bool true)])
                      (.load ⟨n2, 0, none⟩ (.int .i64) (fun x28 =>
                        .load ⟨n2, 1, none⟩ (.int .i64) (fun x29 =>
                          .load ⟨n2, 2, none⟩ .str (fun s30 =>
                            .load ⟨n2, 3, none⟩ .sl (fun l31 =>
                              .load ⟨n3, 0, none⟩ (.int .i64) (fun x32 =>
                                .load ⟨n3, 1, none⟩ (.int .i64) (fun x33 =>
                                  .load ⟨n3, 2, none⟩ .str (fun s34 =>
                                    .load ⟨n3, 3, none⟩ .sl (fun l35 =>
                                      .call 8 #[.agg #[.int .i64 x28, .int .i64 x29, .string s30, .slice l31.1 l31.2.1 l31.2.2], .agg #[.int .i64 x32, .int .i64 x33, .string s34, .slice l35.1 l35.2.1 l35.2.2]] (.one (.leaf .bool)) (fun b36 =>
                                        .br (!b36)
                                          (.fin .normal [(37, .bool true)])
                                          (.load ⟨n1, 0, none⟩ (.int .i64) (fun x37 =>
                                            .load ⟨n1, 1, none⟩ (.int .i64) (fun x38 =>
                                              .load ⟨n1, 2, none⟩ .str (fun s39 =>
                                                .load ⟨n1, 3, none⟩ .sl (fun l40 =>
                                                  .load ⟨n3, 0, none⟩ (.int .i64) (fun x41 =>
                                                    .load ⟨n3, 1, none⟩ (.int .i64) (fun x42 =>
                                                      .load ⟨n3, 2, none⟩ .str (fun s43 =>
                                                        .load ⟨n3, 3, none⟩ .sl (fun l44 =>
                                                          .call 8 #[.agg #[.int .i64 x37, .int .i64 x38, .string s39, .slice l40.1 l40.2.1 l40.2.2], .agg #[.int .i64 x41, .int .i64 x42, .string s43, .slice l44.1 l44.2.1 l44.2.2]] (.one (.leaf .bool)) (fun b45 =>
                                                            .br (!b45)
                                                              (.fin .normal [(37, .bool true)])
                                                              (.load ⟨n1, 0, none⟩ (.int .i64) (fun x46 =>
                                                                .load ⟨n1, 1, none⟩ (.int .i64) (fun x47 =>
                                                                  .load ⟨n1, 2, none⟩ .str (fun s48 =>
                                                                    .load ⟨n1, 3, none⟩ .sl (fun l49 =>
                                                                      .load ⟨n1, 0, none⟩ (.int .i64) (fun x50 =>
                                                                        .load ⟨n1, 1, none⟩ (.int .i64) (fun x51 =>
                                                                          .load ⟨n1, 2, none⟩ .str (fun s52 =>
                                                                            .load ⟨n1, 3, none⟩ .sl (fun l53 =>
                                                                              .call 8 #[.agg #[.int .i64 x46, .int .i64 x47, .string s48, .slice l49.1 l49.2.1 l49.2.2], .agg #[.int .i64 x50, .int .i64 x51, .string s52, .slice l53.1 l53.2.1 l53.2.2]] (.one (.leaf .bool)) (fun b54 =>
                                                                                .fin .normal [(37, .bool (!b54))]))))))))))))))))))))))))))))))))))))))) := by kernel_rfl
abbrev fx3_83 (x64 : Int) (x73 : Int) (x82 : Int) : List (Tmp × Value) := [(7, .int .i64 x64), (8, .int .i64 x73), (9, .int .i64 x82)]
abbrev mx3_83 : List (Tmp × Comp) := [(52, .leaf .bool)]
def s3_83 : Script := .sym (.lit (.lit .nil)) (.lit (.lit .nil))
theorem t3_83 (x64 : Int) (x73 : Int) (x82 : Int) (g : Nat → Value) : pieceT Tryd.prog (at_ Tryd.f3 [1, 1, 1, 1, 0, 0]) 74 (fx3_83 x64 x73 x82) g (mx3_83.map (·.1)) [] [] s3_83 =
  .br (Decidable.decide (x64 ≤ 0))
    (.fin .normal [(52, .bool (Decidable.decide (x73 ≤ 0)))])
    (.fin .normal [(52, .bool false)]) := by kernel_rfl
abbrev fx3_85 (x64 : Int) (x73 : Int) (x82 : Int) : List (Tmp × Value) := [(7, .int .i64 x64), (8, .int .i64 x73), (9, .int .i64 x82)]
abbrev mx3_85 : List (Tmp × Comp) := [(6, .leaf .bool)]
def s3_85 : Script := .sym (.lit (.lit (.lit (.lit (.sym (.lit (.lit (.lit (.lit (.lit .nil))))) (.lit (.lit (.lit (.lit (.lit .nil)))))))))) (.lit (.lit (.lit (.lit (.lit (.lit (.lit .nil)))))))
theorem t3_85 (x64 : Int) (x73 : Int) (x82 : Int) (g : Nat → Value) : pieceT Tryd.prog (at_ Tryd.f3 [1, 1, 1, 1, 0, 1, 0, 0]) 74 (fx3_85 x64 x73 x82) g (mx3_85.map (·.1)) [] [] s3_85 =
  .br (Decidable.decide (x82 ≤ 0))
    (.br (x64 == 0)
      (.fin .normal [(6, .bool ((x82 == 0) == (x73 == 0)))])
      (.fin .normal [(6, .bool ((x82 == 0) == Bool.false))]))
    (.fin .normal [(6, .bool false)]) := by kernel_rfl
def s3 : Script := .ld (.int .i64) (.ld (.int .i64) (.ld .str (.ld .sl (.ld (.int .i64) (.ld (.int .i64) (.ld .str (.ld .sl (.ld (.int .i64) (.ld (.int .i64) (.ld .str (.ld .sl (.cl (.one (.leaf .bool)) (.sym .nil (.ct 1 [3, 4, 5] mx3_18 (.sym .nil (.qt (.ld (.int .i64) (.ld (.int .i64) (.ld .str (.ld .sl (.ld (.int .i64) (.ld (.int .i64) (.ld .str (.ld .sl (.cl (.one (.leaf (.int .i64))) (.ld (.int .i64) (.ld (.int .i64) (.ld .str (.ld .sl (.ld (.int .i64) (.ld (.int .i64) (.ld .str (.ld .sl (.cl (.one (.leaf (.int .i64))) (.ld (.int .i64) (.ld (.int .i64) (.ld .str (.ld .sl (.ld (.int .i64) (.ld (.int .i64) (.ld .str (.ld .sl (.cl (.one (.leaf (.int .i64))) (.ct 1 [7, 8, 9] mx3_83 (.sym (.ct 0 [7, 8, 9] mx3_85 .nil) (.sym (.lit (.lit (.sym .nil .nil))) (.lit (.lit (.lit .nil)))))))))))))))))))))))))))))))))))))))))))))))))
theorem t3 (qx0_0 : Int) (qx0_1 : Int) (qs0_2 : ByteArray) (qa0_3 : Option Addr) (qn0_3 : Nat) (qc0_3 : Nat) (qx1_0 : Int) (qx1_1 : Int) (qs1_2 : ByteArray) (qa1_3 : Option Addr) (qn1_3 : Nat) (qc1_3 : Nat) (qx2_0 : Int) (qx2_1 : Int) (qs2_2 : ByteArray) (qa2_3 : Option Addr) (qn2_3 : Nat) (qc2_3 : Nat) : fnT Tryd.prog Tryd.f3 #[.agg #[.int .i64 qx0_0, .int .i64 qx0_1, .string qs0_2, .slice qa0_3 qn0_3 qc0_3], .agg #[.int .i64 qx1_0, .int .i64 qx1_1, .string qs1_2, .slice qa1_3 qn1_3 qc1_3], .agg #[.int .i64 qx2_0, .int .i64 qx2_1, .string qs2_2, .slice qa2_3 qn2_3 qc2_3]] s3 =
  .new (.cells #[.int .i64 qx0_0, .int .i64 qx0_1, .string qs0_2, .slice qa0_3 qn0_3 qc0_3] 24 (0, 0)) (fun n1 =>
    .new (.cells #[.int .i64 qx1_0, .int .i64 qx1_1, .string qs1_2, .slice qa1_3 qn1_3 qc1_3] 24 (0, 0)) (fun n2 =>
      .new (.cells #[.int .i64 qx2_0, .int .i64 qx2_1, .string qs2_2, .slice qa2_3 qn2_3 qc2_3] 24 (0, 0)) (fun n3 =>
        .load ⟨n1, 0, none⟩ (.int .i64) (fun x4 =>
          .load ⟨n1, 1, none⟩ (.int .i64) (fun x5 =>
            .load ⟨n1, 2, none⟩ .str (fun s6 =>
              .load ⟨n1, 3, none⟩ .sl (fun l7 =>
                .load ⟨n2, 0, none⟩ (.int .i64) (fun x8 =>
                  .load ⟨n2, 1, none⟩ (.int .i64) (fun x9 =>
                    .load ⟨n2, 2, none⟩ .str (fun s10 =>
                      .load ⟨n2, 3, none⟩ .sl (fun l11 =>
                        .load ⟨n3, 0, none⟩ (.int .i64) (fun x12 =>
                          .load ⟨n3, 1, none⟩ (.int .i64) (fun x13 =>
                            .load ⟨n3, 2, none⟩ .str (fun s14 =>
                              .load ⟨n3, 3, none⟩ .sl (fun l15 =>
                                .new (.cells #[.int .i64 x4, .int .i64 x5, .string s6, .slice l7.1 l7.2.1 l7.2.2, .int .i64 x8, .int .i64 x9, .string s10, .slice l11.1 l11.2.1 l11.2.2, .int .i64 x12, .int .i64 x13, .string s14, .slice l15.1 l15.2.1 l15.2.2] 24 (0, 0)) (fun n16 =>
                                  .call 7 #[.slice (some ⟨n16, 0, none⟩) 3 3] (.one (.leaf .bool)) (fun b17 =>
                                    .br (!b17)
                                      (.done (.returned (.bool true)))
                                      (.cut (at_ Tryd.f3 [1, 1, 0, 0]) 74 (fx3_18 n1 n2 n3) mx3_18 (fun u55 g55 =>
                                        .br u55.1
                                          (.done (.returned (.bool false)))
                                          (.drawn
                                            (.load ⟨n1, 0, none⟩ (.int .i64) (fun x56 =>
                                              .load ⟨n1, 1, none⟩ (.int .i64) (fun x57 =>
                                                .load ⟨n1, 2, none⟩ .str (fun s58 =>
                                                  .load ⟨n1, 3, none⟩ .sl (fun l59 =>
                                                    .load ⟨n2, 0, none⟩ (.int .i64) (fun x60 =>
                                                      .load ⟨n2, 1, none⟩ (.int .i64) (fun x61 =>
                                                        .load ⟨n2, 2, none⟩ .str (fun s62 =>
                                                          .load ⟨n2, 3, none⟩ .sl (fun l63 =>
                                                            .call 9 #[.agg #[.int .i64 x56, .int .i64 x57, .string s58, .slice l59.1 l59.2.1 l59.2.2], .agg #[.int .i64 x60, .int .i64 x61, .string s62, .slice l63.1 l63.2.1 l63.2.2]] (.one (.leaf (.int .i64))) (fun x64 =>
                                                              .load ⟨n2, 0, none⟩ (.int .i64) (fun x65 =>
                                                                .load ⟨n2, 1, none⟩ (.int .i64) (fun x66 =>
                                                                  .load ⟨n2, 2, none⟩ .str (fun s67 =>
                                                                    .load ⟨n2, 3, none⟩ .sl (fun l68 =>
                                                                      .load ⟨n3, 0, none⟩ (.int .i64) (fun x69 =>
                                                                        .load ⟨n3, 1, none⟩ (.int .i64) (fun x70 =>
                                                                          .load ⟨n3, 2, none⟩ .str (fun s71 =>
                                                                            .load ⟨n3, 3, none⟩ .sl (fun l72 =>
                                                                              .call 9 #[.agg #[.int .i64 x65, .int .i64 x66, .string s67, .slice l68.1 l68.2.1 l68.2.2], .agg #[.int .i64 x69, .int .i64 x70, .string s71, .slice l72.1 l72.2.1 l72.2.2]] (.one (.leaf (.int .i64))) (fun x73 =>
                                                                                .load ⟨n1, 0, none⟩ (.int .i64) (fun x74 =>
                                                                                  .load ⟨n1, 1, none⟩ (.int .i64) (fun x75 =>
                                                                                    .load ⟨n1, 2, none⟩ .str (fun s76 =>
                                                                                      .load ⟨n1, 3, none⟩ .sl (fun l77 =>
                                                                                        .load ⟨n3, 0, none⟩ (.int .i64) (fun x78 =>
                                                                                          .load ⟨n3, 1, none⟩ (.int .i64) (fun x79 =>
                                                                                            .load ⟨n3, 2, none⟩ .str (fun s80 =>
                                                                                              .load ⟨n3, 3, none⟩ .sl (fun l81 =>
                                                                                                .call 9 #[.agg #[.int .i64 x74, .int .i64 x75, .string s76, .slice l77.1 l77.2.1 l77.2.2], .agg #[.int .i64 x78, .int .i64 x79, .string s80, .slice l81.1 l81.2.1 l81.2.2]] (.one (.leaf (.int .i64))) (fun x82 =>
                                                                                                  .undrawn
                                                                                                    (.cut (at_ Tryd.f3 [1, 1, 1, 1, 0, 0]) 74 (fx3_83 x64 x73 x82) mx3_83 (fun u84 g84 =>
                                                                                                      .br u84.1
                                                                                                        (.cut (at_ Tryd.f3 [1, 1, 1, 1, 0, 1, 0, 0]) 74 (fx3_85 x64 x73 x82) mx3_85 (fun u86 g86 =>
                                                                                                          .done (.returned (.bool u86.1))))
                                                                                                        (.br (Decidable.decide (x64 ≥ 0))
                                                                                                          (.br (Decidable.decide (x73 ≥ 0))
                                                                                                            (.done (.returned (.bool (Decidable.decide (x82 ≥ 0)))))
                                                                                                            (.done (.returned (.bool true))))
                                                                                                          (.done (.returned (.bool true)))))))))))))))))))))))))))))))))))))))))))))))))))))) := by kernel_rfl

theorem three_is {w : World} {b : Nat} {x y z : VT} {p : Option Addr} {m c : Nat} {q : Option Addr} {m' c' : Nat} {r : Option Addr} {k d : Nat} {t : TypeId} (hx : IsV w x p m c) (hy : IsV w y q m' c') (hz : IsV w z r k d)
    (hb : Blk w b (cellsV x p m c ++ cellsV y q m' c' ++ cellsV z r k d) t) : IsV w (.mk 3 0 (bytesL []) [x, y, z]) (some ⟨b, 0, none⟩) 3 3 := by
  refine ⟨Nat.le_refl _, by omega, ?_⟩
  simp only [RIt, RL]
  refine ⟨rfl, fun _ => ⟨_, rfl, ⟨p, m, c, ⟨?_, ?_, ?_, ?_⟩, hx.cap, hx.big, hx.its⟩, ⟨q, m', c', ⟨?_, ?_, ?_, ?_⟩, hy.cap, hy.big, hy.its⟩, ⟨r, k, d, ⟨?_, ?_, ?_, ?_⟩, hz.cap, hz.big, hz.its⟩, trivial⟩⟩ <;> simp only [addr_add] <;> rw [hb.cell] <;> rfl
set_option maxHeartbeats 1000000 in
theorem order3_any (hp : ∀ x y, Fit x → Fit y → pairV x y = true) (x y z : VT) (p : Option Addr) (m c : Nat) (q : Option Addr) (m' c' : Nat) (r : Option Addr) (k d : Nat) (w : World) (hx : IsV w x p m c) (hy : IsV w y q m' c') (hz : IsV w z r k d) (fx : Fit x) (fy : Fit y) (fz : Fit z) (hT : Tabs w) (h7g : 7 ≤ w.heap.size) :
    Calls Tryd.prog 3 #[valV x p m c, valV y q m' c', valV z r k d] w fun e w' => e = .returned (.bool true) ∧ Ch No w w' := by
  refine calls_of_fnT mixed Tryd.func3 (s := s3) ?_
  unfold valV
  rw [t3]
  refine nw fun w1 h1 z1 b1 => nw fun w2 h2 z2 b2 => nw fun w3 h3 z3 b3 => ?_
  have A := (b1.ch h2 (fun h => h)).ch h3 (fun h => h)
  have B := b2.ch h3 (fun h => h)
  have H : Ch No w w3 := h1.trans (h2.trans h3)
  refine ld_int (A.cell 0) (ld_int (A.cell 1) (ld_str (A.cell 2) (ld_sl (A.cell 3) (ld_int (B.cell 0) (ld_int (B.cell 1) (ld_str (B.cell 2) (ld_sl (B.cell 3) (ld_int (b3.cell 0) (ld_int (b3.cell 1) (ld_str (b3.cell 2) (ld_sl (b3.cell 3) ?_)))))))))))
  refine nw fun w4 h4 z4 b4 => ?_
  have H4 := H.trans h4
  refine cl_i (few_any _ _ 3 3 w4 (three_is (hx.no H4) (hy.no H4) (hz.no H4) b4)) ?_
  rintro e w5 ⟨rfl, h5⟩
  refine ⟨_, rfl, ?_⟩
  have H5 := H4.trans h5
  refine br_both (fun _ => ⟨rfl, H5⟩) fun _ => ?_
  have A5 := (A.ch h4 (fun h => h)).ch h5 (fun h => h)
  have B5 := (B.ch h4 (fun h => h)).ch h5 (fun h => h)
  have D5 := (b3.ch h4 (fun h => h)).ch h5 (fun h => h)
  refine cut_i mixed s3_18 (fun (v : Bool × Unit) w' => Ch No w5 w' ∧ v.1 = false) (by kernel_rfl) (fun g => ?_) ?_
  · rw [t3_18]
    refine ld_int (A5.cell 0) (ld_int (A5.cell 1) (ld_str (A5.cell 2) (ld_sl (A5.cell 3) (ld_int (B5.cell 0) (ld_int (B5.cell 1) (ld_str (B5.cell 2) (ld_sl (B5.cell 3) ?_)))))))
    refine cl_i (pair_any x y p m c q m' c' w5 (hx.no H5) (hy.no H5) fx fy (hT.no H5) (Nat.le_trans h7g H5.size)) ?_
    rintro e w6 ⟨rfl, h6⟩
    have H6 := H5.trans h6
    have A6 := A5.ch h6 (fun h => h); have B6 := B5.ch h6 (fun h => h); have D6 := D5.ch h6 (fun h => h)
    refine ⟨_, rfl, br_both (fun e => by rw [hp x y fx fy] at e; cases e) fun _ => ?_⟩
    refine ld_int (B6.cell 0) (ld_int (B6.cell 1) (ld_str (B6.cell 2) (ld_sl (B6.cell 3) (ld_int (D6.cell 0) (ld_int (D6.cell 1) (ld_str (D6.cell 2) (ld_sl (D6.cell 3) ?_)))))))
    refine cl_i (pair_any y z q m' c' r k d w6 (hy.no H6) (hz.no H6) fy fz (hT.no H6) (Nat.le_trans h7g H6.size)) ?_
    rintro e w7 ⟨rfl, h7⟩
    have H7 := H6.trans h7
    have A7 := A6.ch h7 (fun h => h); have D7 := D6.ch h7 (fun h => h)
    refine ⟨_, rfl, br_both (fun e => by rw [hp y z fy fz] at e; cases e) fun _ => ?_⟩
    refine ld_int (A7.cell 0) (ld_int (A7.cell 1) (ld_str (A7.cell 2) (ld_sl (A7.cell 3) (ld_int (D7.cell 0) (ld_int (D7.cell 1) (ld_str (D7.cell 2) (ld_sl (D7.cell 3) ?_)))))))
    refine cl_i (pair_any x z p m c r k d w7 (hx.no H7) (hz.no H7) fx fz (hT.no H7) (Nat.le_trans h7g H7.size)) ?_
    rintro e w8 ⟨rfl, h8⟩
    have H8 := H7.trans h8
    have A8 := A7.ch h8 (fun h => h)
    refine ⟨_, rfl, br_both (fun e => by rw [hp x z fx fz] at e; cases e) fun _ => ?_⟩
    refine ld_int (A8.cell 0) (ld_int (A8.cell 1) (ld_str (A8.cell 2) (ld_sl (A8.cell 3) (ld_int (A8.cell 0) (ld_int (A8.cell 1) (ld_str (A8.cell 2) (ld_sl (A8.cell 3) ?_)))))))
    refine cl_i (pair_any x x p m c p m c w8 (hx.no H8) (hx.no H8) fx fx (hT.no H8) (Nat.le_trans h7g H8.size)) ?_
    rintro e w9 ⟨rfl, h9⟩
    refine ⟨_, rfl, rfl, (_, ()), rfl, h6.trans (h7.trans (h8.trans h9)), ?_⟩
    dsimp only
    rw [hp x x fx fx]
  rintro ⟨b0, ⟨⟩⟩ g5 w6 ⟨h6, hb0⟩
  dsimp only at hb0
  subst hb0
  have H6 := H5.trans h6
  refine br_both (fun e => by cases e) fun _ => ?_
  have A6 := A5.ch h6 (fun h => h); have B6 := B5.ch h6 (fun h => h); have D6 := D5.ch h6 (fun h => h)
  refine ⟨fun w'' => Ch No w6 w'', (Ch.refl _ _).drew, ?_⟩
  have cA : ∀ w'', Ch No w6 w'' → Blk w'' _ _ _ := fun w'' h => A6.ch h (fun h => h)
  have cB : ∀ w'', Ch No w6 w'' → Blk w'' _ _ _ := fun w'' h => B6.ch h (fun h => h)
  have cD : ∀ w'', Ch No w6 w'' → Blk w'' _ _ _ := fun w'' h => D6.ch h (fun h => h)
  refine ⟨x.kind, fun w'' h => (cA w'' h).cell 0, x.int, fun w'' h => (cA w'' h).cell 1, x.text, fun w'' h => (cA w'' h).cell 2, (p, m, c), fun w'' h => (cA w'' h).cell 3, y.kind, fun w'' h => (cB w'' h).cell 0, y.int, fun w'' h => (cB w'' h).cell 1, y.text, fun w'' h => (cB w'' h).cell 2, (q, m', c'), fun w'' h => (cB w'' h).cell 3, ?_⟩
  refine ⟨cmpV x y, fun w'' h => (compare_any x y p m c q m' c' w'' (hx.no (H6.trans h)) (hy.no (H6.trans h))).mono fun e w3 ⟨he, h3⟩ => ⟨he, h.trans h3⟩, ?_⟩
  refine ⟨y.kind, fun w'' h => (cB w'' h).cell 0, y.int, fun w'' h => (cB w'' h).cell 1, y.text, fun w'' h => (cB w'' h).cell 2, (q, m', c'), fun w'' h => (cB w'' h).cell 3, z.kind, fun w'' h => (cD w'' h).cell 0, z.int, fun w'' h => (cD w'' h).cell 1, z.text, fun w'' h => (cD w'' h).cell 2, (r, k, d), fun w'' h => (cD w'' h).cell 3, ?_⟩
  refine ⟨cmpV y z, fun w'' h => (compare_any y z q m' c' r k d w'' (hy.no (H6.trans h)) (hz.no (H6.trans h))).mono fun e w3 ⟨he, h3⟩ => ⟨he, h.trans h3⟩, ?_⟩
  refine ⟨x.kind, fun w'' h => (cA w'' h).cell 0, x.int, fun w'' h => (cA w'' h).cell 1, x.text, fun w'' h => (cA w'' h).cell 2, (p, m, c), fun w'' h => (cA w'' h).cell 3, z.kind, fun w'' h => (cD w'' h).cell 0, z.int, fun w'' h => (cD w'' h).cell 1, z.text, fun w'' h => (cD w'' h).cell 2, (r, k, d), fun w'' h => (cD w'' h).cell 3, ?_⟩
  refine ⟨cmpV x z, fun w'' h => (compare_any x z p m c r k d w'' (hx.no (H6.trans h)) (hz.no (H6.trans h))).mono fun e w3 ⟨he, h3⟩ => ⟨he, h.trans h3⟩, ?_⟩
  intro w7 h7
  have H7 := H6.trans h7
  obtain ⟨t1, t2⟩ := cmp_tr x y z
  generalize cmpV x y = a at *
  generalize cmpV y z = b at *
  generalize cmpV x z = cc at *
  refine cut_i mixed s3_83 (fun (v : Bool × Unit) w' => w' = w7 ∧ v.1 = decide (a ≤ 0 ∧ b ≤ 0)) (by kernel_rfl) (fun g => ?_) ?_
  · rw [t3_83]
    refine br_both (fun e => ⟨rfl, (_, ()), rfl, rfl, ?_⟩) fun e => ⟨rfl, (false, ()), rfl, rfl, ?_⟩
    · have e := of_decide_eq_true e
      exact decide_eq_decide.2 ⟨fun h => ⟨e, h⟩, fun h => h.2⟩
    · have e := of_decide_eq_false e
      exact (decide_eq_false fun h => e h.1).symm
  rintro ⟨b1', ⟨⟩⟩ g7 w8 ⟨rfl, hb1⟩
  dsimp only at hb1
  subst hb1
  refine br_both (fun e => ?_) fun e => ?_
  · obtain ⟨e1, e2⟩ := of_decide_eq_true e
    obtain ⟨t3', t4⟩ := t1 e1 e2
    refine cut_i mixed s3_85 (fun (v : Bool × Unit) w' => w' = w8 ∧ v.1 = true) (by kernel_rfl) (fun g => ?_) (fun v g w' ⟨hw, hv⟩ => by rw [hv, hw]; exact ⟨rfl, H7⟩)
    rw [t3_85]
    refine br_both (fun e => br_both (fun e' => ⟨rfl, (_, ()), rfl, rfl, ?_⟩) fun e' => ⟨rfl, (_, ()), rfl, rfl, ?_⟩) fun e => absurd t3' (of_decide_eq_false e)
    · have e' : a = 0 := by simpa using e'
      dsimp only
      by_cases hb : b = 0
      · simp [hb, t4.2 ⟨e', hb⟩]
      · have : ¬ cc = 0 := fun h => hb (t4.1 h).2
        have q1 : (cc == 0) = false := by simpa using this
        have q2 : (b == 0) = false := by simpa using hb
        rw [q1, q2]; rfl
    · have e' : ¬ a = 0 := by simpa using e'
      have : ¬ cc = 0 := fun h => e' (t4.1 h).1
      have q1 : (cc == 0) = false := by simpa using this
      dsimp only
      rw [q1]; rfl
  · refine br_both (fun e1 => br_both (fun e2 => ⟨?_, H7⟩) fun _ => ⟨rfl, H7⟩) fun _ => ⟨rfl, H7⟩
    have := (t2 (of_decide_eq_true e1) (of_decide_eq_true e2)).1
    rw [decide_eq_true this]
end Go.Proofs.YtjellmblammiaaaDoor
