/- ValueWhole: what is printed is read back, what is encoded is decoded, whatever bytes follow. -/
import Derived.Test.YtjellmblammiaaaDoorCan
import Derived.Test.YtjellmblammiaaaDoorPrs
import Derived.Laws.OwnMore
namespace Go.Proofs.YtjellmblammiaaaDoor
open Go Tr
open Go.Lib (byteCells)
set_option maxRecDepth 100000
/-! the tree of function 6 -/
abbrev fx6_21 (qa1 : Option Addr) (qn1 : Nat) (qc1 : Nat) (n1 : Nat) (n13 : Nat) (s18 : ByteArray) (r19 : (Int × Int × ByteArray × (Option Addr × Nat × Nat) × Unit) × Int × Int × Unit) (n20 : Nat) : List (Tmp × Value) := [(1, .slice qa1 qn1 qc1), (2, .pointer (some ⟨n1, 0, none⟩)), (5, .pointer (some ⟨n13, 0, none⟩)), (6, .string s18), (7, .pointer (some ⟨n20, 0, none⟩)), (8, .int .i64 r19.2.1), (9, .int .i64 r19.2.2.1)]
abbrev mx6_21 : List (Tmp × Comp) := [(46, .leaf .bool)]
def s6_21 : Script := .sym (.lit (.lit (.lit (.lit (.lit (.lit (.lit (.lit (.lit .nil))))))))) (.lit (.lit (.lit (.lit (.sym (.lit (.lit (.lit (.lit .nil)))) (.ld (.int .i64) (.ld (.int .i64) (.ld .str (.ld .sl (.lit (.ld (.int .i64) (.ld (.int .i64) (.ld .str (.ld .sl (.lit (.cl (.one (.leaf .bool)) (.lit (.lit .nil))))))))))))))))))
theorem t6_21 (qa1 : Option Addr) (qn1 : Nat) (qc1 : Nat) (n1 : Nat) (n13 : Nat) (s18 : ByteArray) (r19 : (Int × Int × ByteArray × (Option Addr × Nat × Nat) × Unit) × Int × Int × Unit) (n20 : Nat) (g : Nat → Value) : pieceT Tryd.prog (at_ Tryd.f6 [1, 1, 1, 1, 1, 0, 0]) 106 (fx6_21 qa1 qn1 qc1 n1 n13 s18 r19 n20) g (mx6_21.map (·.1)) [] [] s6_21 =
  .br (r19.snd.snd.fst != 0)
    (.fin .normal [(46, .bool true)])
    (.br (r19.snd.fst != (↑s18.size : Int))
      (.fin .normal [(46, .bool true)])
      (.load ⟨n20, 0, none⟩ (.int .i64) (fun x22 =>
        .load ⟨n20, 1, none⟩ (.int .i64) (fun x23 =>
          .load ⟨n20, 2, none⟩ .str (fun s24 =>
            .load ⟨n20, 3, none⟩ .sl (fun l25 =>
              .load ⟨n13, 0, none⟩ (.int .i64) (fun x26 =>
                .load ⟨n13, 1, none⟩ (.int .i64) (fun x27 =>
                  .load ⟨n13, 2, none⟩ .str (fun s28 =>
                    .load ⟨n13, 3, none⟩ .sl (fun l29 =>
                      .call 12 #[.agg #[.int .i64 x22, .int .i64 x23, .string s24, .slice l25.1 l25.2.1 l25.2.2], .agg #[.int .i64 x26, .int .i64 x27, .string s28, .slice l29.1 l29.2.1 l29.2.2]] (.one (.leaf .bool)) (fun b30 =>
                        .fin .normal [(46, .bool (!b30))]))))))))))) := by kernel_rfl
abbrev fx6_34 (qa1 : Option Addr) (qn1 : Nat) (qc1 : Nat) (n1 : Nat) (n13 : Nat) (s18 : ByteArray) (r32 : (Int × Int × ByteArray × (Option Addr × Nat × Nat) × Unit) × Int × Int × Unit) (n33 : Nat) : List (Tmp × Value) := [(1, .slice qa1 qn1 qc1), (2, .pointer (some ⟨n1, 0, none⟩)), (5, .pointer (some ⟨n13, 0, none⟩)), (6, .string s18), (10, .pointer (some ⟨n33, 0, none⟩)), (11, .int .i64 r32.2.1), (12, .int .i64 r32.2.2.1)]
abbrev mx6_34 : List (Tmp × Comp) := [(67, .leaf .bool)]
def s6_34 : Script := .sym (.lit (.lit (.lit (.lit (.lit (.lit (.lit (.lit (.lit .nil))))))))) (.lit (.lit (.lit (.lit (.sym (.lit (.lit (.lit (.lit .nil)))) (.ld (.int .i64) (.ld (.int .i64) (.ld .str (.ld .sl (.lit (.ld (.int .i64) (.ld (.int .i64) (.ld .str (.ld .sl (.lit (.cl (.one (.leaf .bool)) (.lit (.lit .nil))))))))))))))))))
theorem t6_34 (qa1 : Option Addr) (qn1 : Nat) (qc1 : Nat) (n1 : Nat) (n13 : Nat) (s18 : ByteArray) (r32 : (Int × Int × ByteArray × (Option Addr × Nat × Nat) × Unit) × Int × Int × Unit) (n33 : Nat) (g : Nat → Value) : pieceT Tryd.prog (at_ Tryd.f6 [1, 1, 1, 1, 1, 1, 1, 0, 0]) 106 (fx6_34 qa1 qn1 qc1 n1 n13 s18 r32 n33) g (mx6_34.map (·.1)) [] [] s6_34 =
  .br (r32.snd.snd.fst != 0)
    (.fin .normal [(67, .bool true)])
    (.br (r32.snd.fst != (↑s18.size : Int))
      (.fin .normal [(67, .bool true)])
      (.load ⟨n33, 0, none⟩ (.int .i64) (fun x35 =>
        .load ⟨n33, 1, none⟩ (.int .i64) (fun x36 =>
          .load ⟨n33, 2, none⟩ .str (fun s37 =>
            .load ⟨n33, 3, none⟩ .sl (fun l38 =>
              .load ⟨n13, 0, none⟩ (.int .i64) (fun x39 =>
                .load ⟨n13, 1, none⟩ (.int .i64) (fun x40 =>
                  .load ⟨n13, 2, none⟩ .str (fun s41 =>
                    .load ⟨n13, 3, none⟩ .sl (fun l42 =>
                      .call 12 #[.agg #[.int .i64 x35, .int .i64 x36, .string s37, .slice l38.1 l38.2.1 l38.2.2], .agg #[.int .i64 x39, .int .i64 x40, .string s41, .slice l42.1 l42.2.1 l42.2.2]] (.one (.leaf .bool)) (fun b43 =>
                        .fin .normal [(67, .bool (!b43))]))))))))))) := by kernel_rfl
abbrev fx6_54 (n1 : Nat) (n13 : Nat) (l49 : Option Addr × Nat × Nat) (r52 : (Int × Int × ByteArray × (Option Addr × Nat × Nat) × Unit) × Int × Int × Unit) (n53 : Nat) : List (Tmp × Value) := [(2, .pointer (some ⟨n1, 0, none⟩)), (5, .pointer (some ⟨n13, 0, none⟩)), (13, .slice l49.1 l49.2.1 l49.2.2), (15, .pointer (some ⟨n53, 0, none⟩)), (16, .int .i64 r52.2.1), (17, .int .i64 r52.2.2.1)]
abbrev mx6_54 : List (Tmp × Comp) := [(95, .leaf .bool)]
def s6_54 : Script := .sym (.lit (.lit (.lit (.lit (.lit (.lit (.lit (.lit (.lit .nil))))))))) (.lit (.lit (.lit (.lit (.sym (.lit (.lit (.lit (.lit .nil)))) (.ld (.int .i64) (.ld (.int .i64) (.ld .str (.ld .sl (.lit (.ld (.int .i64) (.ld (.int .i64) (.ld .str (.ld .sl (.lit (.cl (.one (.leaf .bool)) (.lit (.lit .nil))))))))))))))))))
theorem t6_54 (n1 : Nat) (n13 : Nat) (l49 : Option Addr × Nat × Nat) (r52 : (Int × Int × ByteArray × (Option Addr × Nat × Nat) × Unit) × Int × Int × Unit) (n53 : Nat) (g : Nat → Value) : pieceT Tryd.prog (at_ Tryd.f6 [1, 1, 1, 1, 1, 1, 1, 1, 1, 1, 1, 1, 1, 0, 0]) 106 (fx6_54 n1 n13 l49 r52 n53) g (mx6_54.map (·.1)) [] [] s6_54 =
  .br (r52.snd.snd.fst != 0)
    (.fin .normal [(95, .bool true)])
    (.br (r52.snd.fst != (↑l49.snd.fst : Int))
      (.fin .normal [(95, .bool true)])
      (.load ⟨n53, 0, none⟩ (.int .i64) (fun x55 =>
        .load ⟨n53, 1, none⟩ (.int .i64) (fun x56 =>
          .load ⟨n53, 2, none⟩ .str (fun s57 =>
            .load ⟨n53, 3, none⟩ .sl (fun l58 =>
              .load ⟨n13, 0, none⟩ (.int .i64) (fun x59 =>
                .load ⟨n13, 1, none⟩ (.int .i64) (fun x60 =>
                  .load ⟨n13, 2, none⟩ .str (fun s61 =>
                    .load ⟨n13, 3, none⟩ .sl (fun l62 =>
                      .call 12 #[.agg #[.int .i64 x55, .int .i64 x56, .string s57, .slice l58.1 l58.2.1 l58.2.2], .agg #[.int .i64 x59, .int .i64 x60, .string s61, .slice l62.1 l62.2.1 l62.2.2]] (.one (.leaf .bool)) (fun b63 =>
                        .fin .normal [(95, .bool (!b63))]))))))))))) := by kernel_rfl
def s6 : Script := .ld (.int .i64) (.ld (.int .i64) (.ld .str (.ld .sl (.cl (.one (.leaf .bool)) (.sym .nil (.ld (.int .i64) (.ld (.int .i64) (.ld .str (.ld .sl (.cl (.one (.agg [.int .i64, .int .i64, .str, .sl])) (.ld (.int .i64) (.ld (.int .i64) (.ld .str (.ld .sl (.cl (.one (.leaf .str)) (.clp (.tup [.agg [.int .i64, .int .i64, .str, .sl], .leaf (.int .i64), .leaf (.int .i64)]) (.ct 1 [1, 2, 5, 6, 7, 8, 9] mx6_21 (.sym .nil (.nd (.clp (.tup [.agg [.int .i64, .int .i64, .str, .sl], .leaf (.int .i64), .leaf (.int .i64)]) (.ct 1 [1, 2, 5, 6, 10, 11, 12] mx6_34 (.sym .nil (.ld (.int .i64) (.ld (.int .i64) (.ld .str (.ld .sl (.cl (.one (.leaf .sl)) (.nop (.nop (.nop (.nop (.rn (.one (.leaf .sl)) (.nop (.nop (.nop (.rn (.one (.leaf .sl)) (.clp (.tup [.agg [.int .i64, .int .i64, .str, .sl], .leaf (.int .i64), .leaf (.int .i64)]) (.ct 1 [2, 5, 13, 15, 16, 17] mx6_54 (.sym .nil (.ld (.int .i64) (.ld (.int .i64) (.ld .str (.ld .sl (.cl (.one (.leaf (.int .i64))) (.sym (.ld (.int .i64) (.ld (.int .i64) (.ld .str (.ld .sl (.lit (.ld (.int .i64) (.ld (.int .i64) (.ld .str (.ld .sl (.lit (.cl (.one (.leaf (.int .i64))) (.lit (.lit .nil))))))))))))) (.lit (.lit (.lit (.lit .nil)))))))))))) .nil))))))))))))))))) .nil)))) .nil))))))))))))))))
theorem t6 (qx0_0 : Int) (qx0_1 : Int) (qs0_2 : ByteArray) (qa0_3 : Option Addr) (qn0_3 : Nat) (qc0_3 : Nat) (qa1 : Option Addr) (qn1 : Nat) (qc1 : Nat) : fnT Tryd.prog Tryd.f6 #[.agg #[.int .i64 qx0_0, .int .i64 qx0_1, .string qs0_2, .slice qa0_3 qn0_3 qc0_3], .slice qa1 qn1 qc1] s6 =
  .new (.cells #[.int .i64 qx0_0, .int .i64 qx0_1, .string qs0_2, .slice qa0_3 qn0_3 qc0_3] 24 (0, 0)) (fun n1 =>
    .load ⟨n1, 0, none⟩ (.int .i64) (fun x2 =>
      .load ⟨n1, 1, none⟩ (.int .i64) (fun x3 =>
        .load ⟨n1, 2, none⟩ .str (fun s4 =>
          .load ⟨n1, 3, none⟩ .sl (fun l5 =>
            .new (.cells #[.int .i64 x2, .int .i64 x3, .string s4, .slice l5.1 l5.2.1 l5.2.2] 24 (0, 0)) (fun n6 =>
              .call 7 #[.slice (some ⟨n6, 0, none⟩) 1 1] (.one (.leaf .bool)) (fun b7 =>
                .br (!b7)
                  (.done (.returned (.bool true)))
                  (.load ⟨n1, 0, none⟩ (.int .i64) (fun x8 =>
                    .load ⟨n1, 1, none⟩ (.int .i64) (fun x9 =>
                      .load ⟨n1, 2, none⟩ .str (fun s10 =>
                        .load ⟨n1, 3, none⟩ .sl (fun l11 =>
                          .call 17 #[.agg #[.int .i64 x8, .int .i64 x9, .string s10, .slice l11.1 l11.2.1 l11.2.2]] (.one (.agg [.int .i64, .int .i64, .str, .sl])) (fun r12 =>
                            .new (.cells #[.int .i64 0, .int .i64 0, .string (bytesL []), .slice none 0 0] 24 (0, 0)) (fun n13 =>
                              .store ⟨n13, 0, none⟩ (.int .i64 r12.1)
                                (.store ⟨n13, 1, none⟩ (.int .i64 r12.2.1)
                                  (.store ⟨n13, 2, none⟩ (.string r12.2.2.1)
                                    (.store ⟨n13, 3, none⟩ (.slice r12.2.2.2.1.1 r12.2.2.2.1.2.1 r12.2.2.2.1.2.2)
                                      (.load ⟨n1, 0, none⟩ (.int .i64) (fun x14 =>
                                        .load ⟨n1, 1, none⟩ (.int .i64) (fun x15 =>
                                          .load ⟨n1, 2, none⟩ .str (fun s16 =>
                                            .load ⟨n1, 3, none⟩ .sl (fun l17 =>
                                              .call 21 #[.agg #[.int .i64 x14, .int .i64 x15, .string s16, .slice l17.1 l17.2.1 l17.2.2]] (.one (.leaf .str)) (fun s18 =>
                                                .callp 10 #[.string s18] (.tup [.agg [.int .i64, .int .i64, .str, .sl], .leaf (.int .i64), .leaf (.int .i64)]) (fun r19 =>
                                                  .new (.cells #[.int .i64 0, .int .i64 0, .string (bytesL []), .slice none 0 0] 24 (0, 0)) (fun n20 =>
                                                    .store ⟨n20, 0, none⟩ (.int .i64 r19.1.1)
                                                      (.store ⟨n20, 1, none⟩ (.int .i64 r19.1.2.1)
                                                        (.store ⟨n20, 2, none⟩ (.string r19.1.2.2.1)
                                                          (.store ⟨n20, 3, none⟩ (.slice r19.1.2.2.2.1.1 r19.1.2.2.2.1.2.1 r19.1.2.2.2.1.2.2)
                                                            (.cut (at_ Tryd.f6 [1, 1, 1, 1, 1, 0, 0]) 106 (fx6_21 qa1 qn1 qc1 n1 n13 s18 r19 n20) mx6_21 (fun u31 g31 =>
                                                              .br u31.1
                                                                (.done (.returned (.bool false)))
                                                                (.need (Decidable.decide (s18.size + (bytesL [44]).size ≤ 9223372036854775807))
                                                                  (.callp 19 #[.string (s18 ++ bytesL [44])] (.tup [.agg [.int .i64, .int .i64, .str, .sl], .leaf (.int .i64), .leaf (.int .i64)]) (fun r32 =>
                                                                    .new (.cells #[.int .i64 0, .int .i64 0, .string (bytesL []), .slice none 0 0] 24 (0, 0)) (fun n33 =>
                                                                      .store ⟨n33, 0, none⟩ (.int .i64 r32.1.1)
                                                                        (.store ⟨n33, 1, none⟩ (.int .i64 r32.1.2.1)
                                                                          (.store ⟨n33, 2, none⟩ (.string r32.1.2.2.1)
                                                                            (.store ⟨n33, 3, none⟩ (.slice r32.1.2.2.2.1.1 r32.1.2.2.2.1.2.1 r32.1.2.2.2.1.2.2)
                                                                              (.cut (at_ Tryd.f6 [1, 1, 1, 1, 1, 1, 1, 0, 0]) 106 (fx6_34 qa1 qn1 qc1 n1 n13 s18 r32 n33) mx6_34 (fun u44 g44 =>
                                                                                .br u44.1
                                                                                  (.done (.returned (.bool false)))
                                                                                  (.load ⟨n1, 0, none⟩ (.int .i64) (fun x45 =>
                                                                                    .load ⟨n1, 1, none⟩ (.int .i64) (fun x46 =>
                                                                                      .load ⟨n1, 2, none⟩ .str (fun s47 =>
                                                                                        .load ⟨n1, 3, none⟩ .sl (fun l48 =>
                                                                                          .call 14 #[.agg #[.int .i64 x45, .int .i64 x46, .string s47, .slice l48.1 l48.2.1 l48.2.2]] (.one (.leaf .sl)) (fun l49 =>
                                                                                            .run (builtin .append #[29, 29] 29 #[false, false] #[.slice none 0 0, .slice l49.1 l49.2.1 l49.2.2]) (.one (.leaf .sl)) (fun l50 =>
                                                                                              .run (builtin .append #[29, 29] 29 #[false, false] #[.slice l50.1 l50.2.1 l50.2.2, .slice qa1 qn1 qc1]) (.one (.leaf .sl)) (fun l51 =>
                                                                                                .callp 11 #[.slice l51.1 l51.2.1 l51.2.2] (.tup [.agg [.int .i64, .int .i64, .str, .sl], .leaf (.int .i64), .leaf (.int .i64)]) (fun r52 =>
                                                                                                  .new (.cells #[.int .i64 0, .int .i64 0, .string (bytesL []), .slice none 0 0] 24 (0, 0)) (fun n53 =>
                                                                                                    .store ⟨n53, 0, none⟩ (.int .i64 r52.1.1)
                                                                                                      (.store ⟨n53, 1, none⟩ (.int .i64 r52.1.2.1)
                                                                                                        (.store ⟨n53, 2, none⟩ (.string r52.1.2.2.1)
                                                                                                          (.store ⟨n53, 3, none⟩ (.slice r52.1.2.2.2.1.1 r52.1.2.2.2.1.2.1 r52.1.2.2.2.1.2.2)
                                                                                                            (.cut (at_ Tryd.f6 [1, 1, 1, 1, 1, 1, 1, 1, 1, 1, 1, 1, 1, 0, 0]) 106 (fx6_54 n1 n13 l49 r52 n53) mx6_54 (fun u64 g64 =>
                                                                                                              .br u64.1
                                                                                                                (.done (.returned (.bool false)))
                                                                                                                (.load ⟨n13, 0, none⟩ (.int .i64) (fun x65 =>
                                                                                                                  .load ⟨n13, 1, none⟩ (.int .i64) (fun x66 =>
                                                                                                                    .load ⟨n13, 2, none⟩ .str (fun s67 =>
                                                                                                                      .load ⟨n13, 3, none⟩ .sl (fun l68 =>
                                                                                                                        .call 13 #[.agg #[.int .i64 x65, .int .i64 x66, .string s67, .slice l68.1 l68.2.1 l68.2.2]] (.one (.leaf (.int .i64))) (fun x69 =>
                                                                                                                          .br (x69 == 0)
                                                                                                                            (.load ⟨n1, 0, none⟩ (.int .i64) (fun x70 =>
                                                                                                                              .load ⟨n1, 1, none⟩ (.int .i64) (fun x71 =>
                                                                                                                                .load ⟨n1, 2, none⟩ .str (fun s72 =>
                                                                                                                                  .load ⟨n1, 3, none⟩ .sl (fun l73 =>
                                                                                                                                    .load ⟨n53, 0, none⟩ (.int .i64) (fun x74 =>
                                                                                                                                      .load ⟨n53, 1, none⟩ (.int .i64) (fun x75 =>
                                                                                                                                        .load ⟨n53, 2, none⟩ .str (fun s76 =>
                                                                                                                                          .load ⟨n53, 3, none⟩ .sl (fun l77 =>
                                                                                                                                            .call 9 #[.agg #[.int .i64 x70, .int .i64 x71, .string s72, .slice l73.1 l73.2.1 l73.2.2], .agg #[.int .i64 x74, .int .i64 x75, .string s76, .slice l77.1 l77.2.1 l77.2.2]] (.one (.leaf (.int .i64))) (fun x78 =>
                                                                                                                                              .done (.returned (.bool (x78 == 0)))))))))))))
                                                                                                                            (.done (.returned (.bool false)))))))))))))))) (fun ch79 =>
                                                                                                  .done (.panicked ch79))))))))))))))))) (fun ch80 =>
                                                                    .done (.panicked ch80))))))))))) (fun ch81 =>
                                                  .done (.panicked ch81))))))))))))))))))))))))) := by kernel_rfl

section
variable {R : Ending → World → Prop} {Q : Exit → List (Tmp × Value) → World → Prop} {md : Md} [hmd : md.Runs] {w : World}
/-- append of bytes that stand somewhere, or of nothing. -/
theorem ap_at {k : Option Addr × Nat × Nat → T} {cs : Array Bool} {base : Nat} {q : Option Addr} {n c : Nat} {bs : List UInt8} (hown : RowB w base q n c bs) (hb : base ≤ w.heap.size) {p : Option Addr} {m c' : Nat} {news : List UInt8} (hat : AtB w p m news) (hp : p = none → c' = 0) (hsz : n + m ≤ 140737488355328)
    (h : ∀ q' c' w', GrewB base w q n c w' q' (n + m) c' (bs ++ news) → wpT Tryd.prog R Q (k (q', n + m, c')) md w') :
    wpT Tryd.prog R Q (.run (builtin .append #[29, 29] 29 cs #[.slice q n c, .slice p m c']) (.one (.leaf .sl)) k) md w := by
  cases p with
  | some a =>
    have hn : (byteCells news).length = m * 1 := by simp [Lib.byteCells_length, hat.1]
    refine ap_row (by kernel_rfl) infoByte rfl (by omega) hown hb (byteCells news) hn (fun j u hu => ?_) (byteCells_one news) (by unfold maxLen; omega) (by omega) fun q' c' w' g => h q' c' w' ?_
    · have hj : j < (byteCells news).length := (List.getElem?_eq_some_iff.1 hu).1
      obtain ⟨ad, e, hc⟩ := hat.2 (by omega)
      cases e
      simp only [byteCells, List.getElem?_map, Option.map_eq_some_iff] at hu
      obtain ⟨b, hb, rfl⟩ := hu
      exact hc j b hb
    · simpa [byteCells, GrewB] using g
  | none =>
    obtain rfl := hp rfl
    have hm : m = 0 := by
      rcases Nat.eq_zero_or_pos m with h | h
      · exact h
      · obtain ⟨ad, e, _⟩ := hat.2 h
        cases e
    subst hm
    have hnil : news = [] := List.length_eq_zero_iff.1 hat.1
    subst hnil
    have hi := infoByte
    cases hi' : Tryd.prog.info? 5 with
    | none => rw [hi'] at hi; cases hi
    | some i =>
      rw [hi'] at hi
      simp only [Option.map_some, Option.some.injEq, Prod.mk.injEq] at hi
      have hr := run_append_owned_none (P := Tryd.prog) (w := w) base 29 29 5 i 1 (by kernel_rfl) hi' (.slice q n c) n (byteCells bs) hown
      refine t_run (x := (q, n, c)) (w' := w) ?_ (h q c w ?_)
      · simp only [builtin, Sem.run_bind, hr, Result.andThen]
        rfl
      · rw [List.append_nil]
        exact Grew.refl hown
end
theorem RowB.big {w : World} {base : Nat} {p : Option Addr} {n c : Nat} {bs : List UInt8} (h : RowB w base p n c bs) : c ≤ 9223372036854775807 := by
  have hh : Row w base 5 1 p n c _ := h
  rcases hh.2 with ⟨e, he⟩ | ⟨g, cap, cur, e, _, _, _, hm, _⟩
  · simp only [Value.slice.injEq] at e
    omega
  · simp only [Value.slice.injEq, true_and] at e
    have : maxLen = 9223372036854775807 := by decide
    omega
theorem RowB.nop {w : World} {base : Nat} {p : Option Addr} {n c : Nat} {bs : List UInt8} (h : RowB w base p n c bs) (hp : p = none) : c = 0 := by
  have hh : Row w base 5 1 p n c _ := h
  subst hp
  rcases hh.2 with ⟨e, he⟩ | ⟨g, cap, cur, e, _, _, _, hm, _⟩
  · simp only [Value.slice.injEq] at e
    exact e.2.2
  · simp only [Value.slice.injEq] at e
    exact absurd e.1 (by simp)
theorem print_valid (x : VT) (hf : Fit x) : parseM (printTxt x) = some (validV x, (partV 0 0 (validV x)).2) ∧ leadM (printTxt x ++ [44]) = some (validV x, [44], (partV 0 0 (validV x)).2) := by
  have hfm : Fm (validV x) (printTxt x) := print_form _ (validV x) (Nat.lt_succ_self _) (validV_good x)
  refine ⟨?_, lead_form (validV_fit hf) (validV_check x) hfm [44] (by decide)⟩
  have := parse_form (validV_fit hf) (validV_check x) hfm bl_nil bl_nil
  simpa using this
theorem cmp_valid (x : VT) : cmpV x (validV x) = 0 := by
  rw [cmp_same]
  have : validV (validV x) = validV x := by
    have h := validV_check x
    generalize validV x = y at *
    unfold validV
    rw [if_pos h]
  rw [this, same_refl (validV_good x)]
theorem size_of_list (l : List UInt8) : (⟨l.toArray⟩ : ByteArray).size = l.length := by
  show l.toArray.size = _
  simp
set_option maxHeartbeats 1000000 in
theorem whole_any (x : VT) (p : Option Addr) (m c : Nat) (w : World) (hx : IsV w x p m c) (fx : Fit x) (b : Option Addr) (bn bc : Nat) (bs : List UInt8) (hb : AtB w b bn bs) (hbp : b = none → bc = 0) (hbig : bn ≤ 140737488351232)
    (hT : Tabs w) (hE : Ev w) (h7g : 7 ≤ w.heap.size) :
    Calls Tryd.prog 6 #[valV x p m c, .slice b bn bc] w fun e w' => e = .returned (.bool true) ∧ Ch No w w' := by
  refine calls_of_fnT mixed Tryd.func6 (s := s6) ?_
  unfold valV
  rw [t6]
  refine nw fun w1 h1 z1 (b1 : Blk w1 w.heap.size (cellsV x p m c) 24) => ?_
  refine ld_v b1 ?_
  refine nw fun w2 h2 z2 (b2 : Blk w2 w1.heap.size (cellsV x p m c) 24) => ?_
  have H2 : Ch No w w2 := h1.trans h2
  refine cl_i (few_any _ _ 1 1 w2 (one_is (hx.no H2) b2)) ?_
  rintro r w3 ⟨rfl, h3⟩
  have H3 := H2.trans h3
  have B3 := (b1.ch h2 (fun h => h)).ch h3 (fun h => h)
  refine ⟨_, rfl, br_both (fun _ => ⟨rfl, H3⟩) fun _ => ?_⟩
  have sz : ∀ {w' : World}, Ch No w w' → 7 ≤ w'.heap.size := fun h => Nat.le_trans h7g h.size
  have hck := validV_check x
  have hvf := validV_fit fx
  have hgd := validV_good x
  obtain ⟨hpr, hld⟩ := print_valid x fx
  have hlen : (printTxt x).length ≤ 2000 := by
    have a1 := print_len _ (validV x) (Nat.lt_succ_self _) hvf
    have a2 := cost_le x
    unfold printTxt
    omega
  have helen := encodeV_len fx
  obtain ⟨px, mx, cx, vx, ex⟩ := valid_is hx
  refine ld_v B3 (cl_i (clean_any x p m c w3 (hx.no H3)) ?_)
  rintro r w4 ⟨rfl, h4⟩
  have H4 := H3.trans h4
  rw [ex]
  refine ⟨((validV x).kind, (validV x).int, (validV x).text, (px, mx, cx), ()), rfl, ?_⟩
  refine put_v (x := validV x) (p := px) (m := mx) (c := cx) fun w5 h5 b5 => ?_
  have H5 := H4.trans h5
  have B5 := (B3.ch h4 (fun h => h)).ch h5 (fun h => h)
  refine ld_v B5 (cl_i (Print_any x p m c w5 (hx.no H5) fx (hT.no H5) (sz H5)) ?_)
  rintro r w6 ⟨rfl, h6⟩
  have H6 := H5.trans h6
  refine ⟨⟨(printTxt x).toArray⟩, rfl, ?_⟩
  have htl : (⟨(printTxt x).toArray⟩ : ByteArray).data.toList = printTxt x := by simp
  have hts : (⟨(printTxt x).toArray⟩ : ByteArray).size = (printTxt x).length := size_of_list _
  generalize (⟨(printTxt x).toArray⟩ : ByteArray) = tx at htl hts ⊢
  refine cp_i (parse_any w6 tx (by omega) (hT.no H6) (hE.ch H6 (fun h => h)) (sz H6)) ?_
  rintro r w7 ⟨h7, hr⟩
  have H7 := H6.trans h7
  rw [htl, hpr] at hr
  obtain ⟨q7, n7, d7, rfl, v7⟩ := hr
  refine .inl ⟨(((validV x).kind, (validV x).int, (validV x).text, (q7, n7, d7), ()), (tx.size : Int), 0, ()), rfl, ?_⟩
  refine put_v (x := validV x) (p := q7) (m := n7) (c := d7) fun w8 h8 b8 => ?_
  have H8 := H7.trans h8
  have C8 := ((b5.ch h6 (fun h => h)).ch h7 (fun h => h)).ch h8 (fun h => h)
  refine cut_i mixed s6_21 (fun (v : Bool × Unit) w' => v.1 = false ∧ Ch No w8 w') (by kernel_rfl) (fun g => ?_) ?_
  · rw [t6_21]
    refine br_false rfl (br_false (by simp) ?_)
    refine ld_v b8 (ld_v C8 (cl_i (same_any _ (validV x) (validV x) q7 n7 d7 px mx cx w8 (Nat.lt_succ_self _) (v7.no h8) (vx _ H8)) ?_))
    rintro r w9 ⟨rfl, h9⟩
    refine ⟨_, rfl, rfl, (_, ()), rfl, ?_, h9⟩
    show (!sameV _ _) = false
    rw [same_refl hgd]; rfl
  rintro ⟨v, ⟨⟩⟩ g w9 ⟨hv, h9⟩
  dsimp only at hv
  subst hv
  refine br_false rfl ?_
  have H9 := H8.trans h9
  refine ⟨decide_eq_true (by rw [hts]; show (printTxt x).length + 1 ≤ _; omega), ?_⟩
  have hs44 : (tx ++ bytesL [44]).size = (printTxt x).length + 1 := by
    rw [ByteArray.size_append, hts]; rfl
  refine cp_i (lead_any w9 (tx ++ bytesL [44]) (by rw [hs44]; omega) (hT.no H9) (hE.ch H9 (fun h => h)) (sz H9)) ?_
  rintro r w10 ⟨h10, hr⟩
  have H10 := H9.trans h10
  have e44 : (tx ++ bytesL [44]).data.toList = printTxt x ++ [44] := by rw [ByteArray.data_append, Array.toList_append, htl]
  rw [e44, hld] at hr
  obtain ⟨q10, n10, d10, rfl, v10⟩ := hr
  refine .inl ⟨(((validV x).kind, (validV x).int, (validV x).text, (q10, n10, d10), ()), (((tx ++ bytesL [44]).size - [(44 : UInt8)].length : Nat) : Int), 0, ()), rfl, ?_⟩
  refine put_v (x := validV x) (p := q10) (m := n10) (c := d10) fun w11 h11 b11 => ?_
  have H11 := H10.trans h11
  have C11 := ((C8.ch h9 (fun h => h)).ch h10 (fun h => h)).ch h11 (fun h => h)
  refine cut_i mixed s6_34 (fun (v : Bool × Unit) w' => v.1 = false ∧ Ch No w11 w') (by kernel_rfl) (fun g => ?_) ?_
  · rw [t6_34]
    refine br_false rfl (br_false ?_ ?_)
    · rw [hs44, hts]
      show ((((printTxt x).length + 1 - 1 : Nat) : Int) != ((printTxt x).length : Int)) = false
      simp
    refine ld_v b11 (ld_v C11 (cl_i (same_any _ (validV x) (validV x) q10 n10 d10 px mx cx w11 (Nat.lt_succ_self _) (v10.no h11) (vx _ H11)) ?_))
    rintro r w12 ⟨rfl, h12⟩
    refine ⟨_, rfl, rfl, (_, ()), rfl, ?_, h12⟩
    show (!sameV _ _) = false
    rw [same_refl hgd]; rfl
  rintro ⟨v, ⟨⟩⟩ g w12 ⟨hv, h12⟩
  dsimp only at hv
  subst hv
  refine br_false rfl ?_
  have H12 := H11.trans h12
  have B12 := B5.ch (h6.trans (h7.trans (h8.trans (h9.trans (h10.trans (h11.trans h12)))))) (fun h => h)
  refine ld_v B12 (cl_i (Encode_any x p m c w12 (hx.no H12) fx) ?_)
  rintro r w13 ⟨q, n, d, rfl, hR, h13⟩
  have H13 := H12.trans h13
  refine ⟨(q, n, d), rfl, ?_⟩
  have hat := hR.at
  have hn := hR.len
  have hsz1 : 0 + n ≤ 140737488355328 := by omega
  have hsz2 : 0 + n + bn ≤ 140737488355328 := by omega
  refine ap_at (show RowB w13 w13.heap.size none 0 0 [] from Row.nil w13 w13.heap.size 5 1) (Nat.le_refl _) hat hR.nop hsz1 fun q14 c14 w14 g14 => ?_
  have k14 : Ch No w13 w14 := g14.ch.mono fun k hk => by cases hk
  have hb14 : AtB w14 b bn bs := (hb.no H13).no k14
  refine ap_at (show RowB w14 w13.heap.size q14 (0 + n) c14 ([] ++ encodeV x) from g14.own) k14.size hb14 hbp hsz2 fun q15 c15 w15 g15 => ?_
  have k15 : Ch No w13 w15 := (g14.trans g15).ch.mono fun k hk => by cases hk
  have H15 := H13.trans k15
  have R15 : RowB w15 w13.heap.size q15 (0 + n + bn) c15 ([] ++ encodeV x ++ bs) := g15.own
  rw [List.nil_append] at R15
  refine cp_i (decode_any w15 q15 (0 + n + bn) c15 (encodeV x ++ bs) R15.at R15.cap R15.big) ?_
  rintro r w16 ⟨h16, hr⟩
  have H16 := H15.trans h16
  have hde : decodeM (encodeV x ++ bs) = .ok (validV x, bs, (partV 0 0 (validV x)).2) := decode_enc (validV x) hvf hck bs
  rw [hde] at hr
  obtain ⟨q16, n16, d16, rfl, v16⟩ := hr
  refine .inl ⟨(((validV x).kind, (validV x).int, (validV x).text, (q16, n16, d16), ()), (((encodeV x ++ bs).length - bs.length : Nat) : Int), 0, ()), rfl, ?_⟩
  refine put_v (x := validV x) (p := q16) (m := n16) (c := d16) fun w17 h17 b17 => ?_
  have H17 := H16.trans h17
  have C17 := C11.ch (h12.trans (h13.trans (k15.trans (h16.trans h17)))) (fun h => h)
  have B17 := B12.ch (h13.trans (k15.trans (h16.trans h17))) (fun h => h)
  refine cut_i mixed s6_54 (fun (v : Bool × Unit) w' => v.1 = false ∧ Ch No w17 w') (by kernel_rfl) (fun g => ?_) ?_
  · rw [t6_54]
    refine br_false rfl (br_false ?_ ?_)
    · show ((((encodeV x ++ bs).length - bs.length : Nat) : Int) != (n : Int)) = false
      rw [List.length_append, Nat.add_sub_cancel, hn]
      simp
    refine ld_v b17 (ld_v C17 (cl_i (same_any _ (validV x) (validV x) q16 n16 d16 px mx cx w17 (Nat.lt_succ_self _) (v16.no h17) (vx _ H17)) ?_))
    rintro r w18 ⟨rfl, h18⟩
    refine ⟨_, rfl, rfl, (_, ()), rfl, ?_, h18⟩
    show (!sameV _ _) = false
    rw [same_refl hgd]; rfl
  rintro ⟨v, ⟨⟩⟩ g w18 ⟨hv, h18⟩
  dsimp only at hv
  subst hv
  refine br_false rfl ?_
  have H18 := H17.trans h18
  refine ld_v (C17.ch h18 (fun h => h)) (cl_i (check_any (validV x) px mx cx w18 (vx _ H18)) ?_)
  rintro r w19 ⟨rfl, h19⟩
  have H19 := H18.trans h19
  refine ⟨_, rfl, br_true (by rw [hck]; rfl) ?_⟩
  have B19 := (B17.ch h18 (fun h => h)).ch h19 (fun h => h)
  have D19 := (b17.ch h18 (fun h => h)).ch h19 (fun h => h)
  refine ld_v B19 (ld_v D19 (cl_i (compare_any x (validV x) p m c q16 n16 d16 w19 (hx.no H19) (((v16.no h17).no h18).no h19)) ?_))
  rintro r w20 ⟨rfl, h20⟩
  refine ⟨_, rfl, ?_, H19.trans h20⟩
  show Ending.returned (.bool (cmpV x (validV x) == 0)) = _
  rw [cmp_valid]
  rfl
end Go.Proofs.YtjellmblammiaaaDoor
