/- The document's answer: ParseScript. -/
import Derived.Test.YtjlmkahagcojcaaGreatDoorRgb
namespace Go.Proofs.YtjlmkahagcojcaaGreatDoor
open Go Tr
set_option maxRecDepth 100000
/-! the tree of function 7 -/
abbrev fx7_3 (l1 : Option Addr × Nat × Nat) : List (Tmp × Value) := [(6, .slice l1.1 l1.2.1 l1.2.2)]
abbrev m7_3 : List (Tmp × Comp) := [(7, .leaf .sl), (8, .leaf (.int .i64))]
abbrev mx7_3 : List (Tmp × Comp) := [(7, .leaf .sl)]
abbrev mr7_3 : List (Tmp × Comp) := [(2, .leaf .sl), (3, .leaf (.int .i64)), (4, .leaf (.int .i64)), (5, .leaf (.int .i64))]
abbrev fx7_32 (l1 : Option Addr × Nat × Nat) (l_7 : Option Addr × Nat × Nat) (x_8 : Int) (n27 : Nat) (r31 : (Int × Int × Int × (Option Addr × Nat × Nat) × Unit) × Int × Int × Unit) : List (Tmp × Value) := [(6, .slice l1.1 l1.2.1 l1.2.2), (7, .slice l_7.1 l_7.2.1 l_7.2.2), (8, .int .i64 x_8), (9, .int .i64 r31.2.1), (10, .int .i64 r31.2.2.1), (12, .pointer (some ⟨n27, 0, none⟩)), (13, .int .i64 (IntKind.i64.wrap ((↑l_7.snd.fst : Int) - 1)))]
abbrev mx7_32 : List (Tmp × Comp) := []
def s7_32 : Script := .hd0 (.hq 0 (.hq 1 (.hq 2 (.hq 3 (.hq 4 (.ix (.hq 5 (.hq 7 (.ld (.int .i64) (.ld (.int .i64) (.ld (.int .i64) (.ld .sl (.hl 6 (.ld .sl (.he 8 (.he 9 (.rn (.one (.leaf .sl)) (.hq 10 (.ix (.hq 11 (.he 12 .nil)))))))) (.hl 8 (.he 6 (.ld .sl (.he 9 (.rn (.one (.leaf .sl)) (.hq 10 (.ix (.hq 11 (.he 12 .nil)))))))) .nil))))))))))))))
theorem t7_32 (l1 : Option Addr × Nat × Nat) (l_7 : Option Addr × Nat × Nat) (x_8 : Int) (n27 : Nat) (r31 : (Int × Int × Int × (Option Addr × Nat × Nat) × Unit) × Int × Int × Unit) (gg32 : Nat → Value) : pieceT Tryz.prog (at_ Tryz.f7 [1, 1, 1, 1, 0, 1, 0, 0, 1, 0, 0, 1, 1, 1, 0, 1, 0, 1, 1, 1, 1, 1, 1, 1, 0]) 127 (fx7_32 l1 l_7 x_8 n27 r31) gg32 (mx7_32.map (·.1)) [] [] s7_32 =
  .hdrawn
    (.idx l_7.1 (IntKind.i64.wrap ((↑l_7.snd.fst : Int) - 1)) l_7.2.1 4 (fun a33 =>
      .load ⟨n27, 0, none⟩ (.int .i64) (fun x34 =>
        .load ⟨n27, 1, none⟩ (.int .i64) (fun x35 =>
          .load ⟨n27, 2, none⟩ (.int .i64) (fun x36 =>
            .load ⟨n27, 3, none⟩ .sl (fun l37 =>
              .both
                (.eff
                  (.load (a33.add 3) .sl (fun l38 =>
                    .back
                      (.eff
                        (.new (.cells #[.int .i64 x34, .int .i64 x35, .int .i64 x36, .slice l37.1 l37.2.1 l37.2.2] 38 (0, 0)) (fun n39 =>
                          .back
                            (.eff
                              (.run (builtin .append #[22, 22] 22 #[false, false] #[.slice l38.1 l38.2.1 l38.2.2, .slice (some ⟨n39, 0, none⟩) 1 1]) (.one (.leaf .sl)) (fun l40 =>
                                .back
                                  (.idx l_7.1 (IntKind.i64.wrap ((↑l_7.snd.fst : Int) - 1)) l_7.2.1 4 (fun a41 =>
                                    .eff
                                      (.store (a41.add 3) (.slice l40.1 l40.2.1 l40.2.2)
                                        (.back
                                          (.undrawn
                                            (.fin .normal [])))))))))))))))
                (.both
                  (.eff
                    (.new (.cells #[.int .i64 x34, .int .i64 x35, .int .i64 x36, .slice l37.1 l37.2.1 l37.2.2] 38 (0, 0)) (fun n42 =>
                      .back
                        (.eff
                          (.load (a33.add 3) .sl (fun l43 =>
                            .back
                              (.eff
                                (.run (builtin .append #[22, 22] 22 #[false, false] #[.slice l43.1 l43.2.1 l43.2.2, .slice (some ⟨n42, 0, none⟩) 1 1]) (.one (.leaf .sl)) (fun l44 =>
                                  .back
                                    (.idx l_7.1 (IntKind.i64.wrap ((↑l_7.snd.fst : Int) - 1)) l_7.2.1 4 (fun a45 =>
                                      .eff
                                        (.store (a45.add 3) (.slice l44.1 l44.2.1 l44.2.2)
                                          (.back
                                            (.undrawn
                                              (.fin .normal [])))))))))))))))
                  (.triv)))))))) := by kernel_rfl
abbrev fx7_47 (l1 : Option Addr × Nat × Nat) (l_7 : Option Addr × Nat × Nat) (x_8 : Int) (r31 : (Int × Int × Int × (Option Addr × Nat × Nat) × Unit) × Int × Int × Unit) : List (Tmp × Value) := [(6, .slice l1.1 l1.2.1 l1.2.2), (7, .slice l_7.1 l_7.2.1 l_7.2.2), (8, .int .i64 x_8), (9, .int .i64 r31.2.1), (10, .int .i64 r31.2.2.1), (13, .int .i64 (IntKind.i64.wrap ((↑l_7.snd.fst : Int) - 1)))]
abbrev mx7_47 : List (Tmp × Comp) := [(72, .leaf .bool)]
def s7_47 : Script := .sym (.lit (.lit (.ix (.lit (.lit (.ld .sl (.lit (.lit (.lit .nil))))))))) (.lit (.lit (.lit (.lit (.lit (.lit (.lit .nil)))))))
theorem t7_47 (l1 : Option Addr × Nat × Nat) (l_7 : Option Addr × Nat × Nat) (x_8 : Int) (r31 : (Int × Int × Int × (Option Addr × Nat × Nat) × Unit) × Int × Int × Unit) (gg47 : Nat → Value) : pieceT Tryz.prog (at_ Tryz.f7 [1, 1, 1, 1, 0, 1, 0, 0, 1, 0, 0, 1, 1, 1, 0, 1, 0, 1, 1, 1, 1, 1, 1, 1, 1, 0]) 127 (fx7_47 l1 l_7 x_8 r31) gg47 (mx7_47.map (·.1)) [] [] s7_47 =
  .br (r31.snd.snd.fst == 0)
    (.idx l_7.1 (IntKind.i64.wrap ((↑l_7.snd.fst : Int) - 1)) l_7.2.1 4 (fun a48 =>
      .load (a48.add 3) .sl (fun l49 =>
        .fin .normal [(72, .bool (Decidable.decide ((↑l49.snd.fst : Int) > 2000)))])))
    (.fin .normal [(72, .bool false)]) := by kernel_rfl
def s7_3 : Script := .sym (.ix (.ld .str (.ld .sl (.cl (.one (.leaf .bool)) (.sym .nil (.ix (.ld .str (.ld .sl (.cl (.one (.leaf .str)) (.sym (.ix (.ld .str (.ld .sl (.cl (.tup [.agg [.int .i64, .int .i64, .int .i64, .sl], .leaf (.int .i64), .leaf (.int .i64)]) (.ld (.int .i64) (.ld (.int .i64) (.ld (.int .i64) (.ld .sl (.nop (.rn (.one (.leaf .sl)) (.sym .nil .nil))))))))))) (.sym (.ix (.ld .str (.ld .sl (.cl (.tup [.leaf .sl, .leaf (.int .i64), .leaf (.int .i64)]) (.sym .nil .nil))))) (.ix (.ld .str (.ld .sl (.cl (.tup [.agg [.int .i64, .int .i64, .int .i64, .sl], .leaf (.int .i64), .leaf (.int .i64)]) (.ct 1 [6, 7, 8, 9, 10, 12, 13] mx7_32 (.ct 0 [6, 7, 8, 9, 10, 13] mx7_47 (.sym (.ix (.ld .str (.ld .sl (.cl (.one (.leaf (.int .i64))) (.lit .nil))))) (.sym .nil .nil))))))))))))))))))) .nil
theorem t7_3 (l1 : Option Addr × Nat × Nat) (l_7 : Option Addr × Nat × Nat) (x_8 : Int) (gg3 : Nat → Value) : pieceT Tryz.prog (at_ Tryz.f7 [1, 1, 1, 1, 0, 1, 0, 0]) 127 (fx7_3 l1 ++ mvals m7_3 (l_7, x_8, ())) gg3 (m7_3.map (·.1)) (mx7_3.map (·.1)) (mr7_3.map (·.1)) s7_3 =
  .br (Decidable.decide (x_8 < (↑l1.snd.fst : Int)))
    (.idx l1.1 x_8 l1.2.1 2 (fun a4 =>
      .load a4 .str (fun s5 =>
        .load (a4.add 1) .sl (fun l6 =>
          .call 24 #[.agg #[.string s5, .slice l6.1 l6.2.1 l6.2.2]] (.one (.leaf .bool)) (fun b7 =>
            .br b7
              (.fin .normal [(7, .slice l_7.1 l_7.2.1 l_7.2.2), (8, .int .i64 (IntKind.i64.wrap (x_8 + 1)))])
              (.idx l1.1 x_8 l1.2.1 2 (fun a8 =>
                .load a8 .str (fun s9 =>
                  .load (a8.add 1) .sl (fun l10 =>
                    .call 25 #[.agg #[.string s9, .slice l10.1 l10.2.1 l10.2.2], .int .i64 0] (.one (.leaf .str)) (fun s11 =>
                      .br (s11.toList == (bytesL [114, 101, 112, 101, 97, 116]).toList)
                        (.new (.cells #[.int .i64 0, .int .i64 0, .int .i64 0, .slice none 0 0] 73 (0, 0)) (fun n12 =>
                          .idx l1.1 x_8 l1.2.1 2 (fun a13 =>
                            .load a13 .str (fun s14 =>
                              .load (a13.add 1) .sl (fun l15 =>
                                .call 26 #[.agg #[.string s14, .slice l15.1 l15.2.1 l15.2.2], .int .i64 x_8] (.tup [.agg [.int .i64, .int .i64, .int .i64, .sl], .leaf (.int .i64), .leaf (.int .i64)]) (fun r16 =>
                                  .store ⟨n12, 0, none⟩ (.int .i64 r16.1.1)
                                    (.store ⟨n12, 1, none⟩ (.int .i64 r16.1.2.1)
                                      (.store ⟨n12, 2, none⟩ (.int .i64 r16.1.2.2.1)
                                        (.store ⟨n12, 3, none⟩ (.slice r16.1.2.2.2.1.1 r16.1.2.2.2.1.2.1 r16.1.2.2.2.1.2.2)
                                          (.load ⟨n12, 0, none⟩ (.int .i64) (fun x17 =>
                                            .load ⟨n12, 1, none⟩ (.int .i64) (fun x18 =>
                                              .load ⟨n12, 2, none⟩ (.int .i64) (fun x19 =>
                                                .load ⟨n12, 3, none⟩ .sl (fun l20 =>
                                                  .new (.cells #[.int .i64 x17, .int .i64 x18, .int .i64 x19, .slice l20.1 l20.2.1 l20.2.2] 73 (0, 0)) (fun n21 =>
                                                    .run (builtin .append #[74, 74] 74 #[false, false] #[.slice l_7.1 l_7.2.1 l_7.2.2, .slice (some ⟨n21, 0, none⟩) 1 1]) (.one (.leaf .sl)) (fun l22 =>
                                                      .br (r16.snd.snd.fst != 0)
                                                        (.fin .ret [(2, .slice none 0 0), (3, .int .i64 (IntKind.i64.wrap (x_8 + 1))), (4, .int .i64 r16.2.1), (5, .int .i64 r16.2.2.1)])
                                                        (.fin .normal [(7, .slice l22.1 l22.2.1 l22.2.2), (8, .int .i64 (IntKind.i64.wrap (x_8 + 1)))])))))))))))))))))
                        (.br (s11.toList == (bytesL [101, 110, 100]).toList)
                          (.idx l1.1 x_8 l1.2.1 2 (fun a23 =>
                            .load a23 .str (fun s24 =>
                              .load (a23.add 1) .sl (fun l25 =>
                                .call 27 #[.slice l_7.1 l_7.2.1 l_7.2.2, .agg #[.string s24, .slice l25.1 l25.2.1 l25.2.2]] (.tup [.leaf .sl, .leaf (.int .i64), .leaf (.int .i64)]) (fun r26 =>
                                  .br (r26.snd.snd.fst != 0)
                                    (.fin .ret [(2, .slice none 0 0), (3, .int .i64 (IntKind.i64.wrap (x_8 + 1))), (4, .int .i64 r26.2.1), (5, .int .i64 r26.2.2.1)])
                                    (.fin .normal [(7, .slice r26.1.1 r26.1.2.1 r26.1.2.2), (8, .int .i64 (IntKind.i64.wrap (x_8 + 1)))]))))))
                          (.new (.cells #[.int .i64 0, .int .i64 0, .int .i64 0, .slice none 0 0] 38 (0, 0)) (fun n27 =>
                            .idx l1.1 x_8 l1.2.1 2 (fun a28 =>
                              .load a28 .str (fun s29 =>
                                .load (a28.add 1) .sl (fun l30 =>
                                  .call 28 #[.agg #[.string s29, .slice l30.1 l30.2.1 l30.2.2]] (.tup [.agg [.int .i64, .int .i64, .int .i64, .sl], .leaf (.int .i64), .leaf (.int .i64)]) (fun r31 =>
                                    .store ⟨n27, 0, none⟩ (.int .i64 r31.1.1)
                                      (.store ⟨n27, 1, none⟩ (.int .i64 r31.1.2.1)
                                        (.store ⟨n27, 2, none⟩ (.int .i64 r31.1.2.2.1)
                                          (.store ⟨n27, 3, none⟩ (.slice r31.1.2.2.2.1.1 r31.1.2.2.2.1.2.1 r31.1.2.2.2.1.2.2)
                                            (.cut (at_ Tryz.f7 [1, 1, 1, 1, 0, 1, 0, 0, 1, 0, 0, 1, 1, 1, 0, 1, 0, 1, 1, 1, 1, 1, 1, 1, 0]) 127 (fx7_32 l1 l_7 x_8 n27 r31) mx7_32 (fun u46 g46 =>
                                              .cut (at_ Tryz.f7 [1, 1, 1, 1, 0, 1, 0, 0, 1, 0, 0, 1, 1, 1, 0, 1, 0, 1, 1, 1, 1, 1, 1, 1, 1, 0]) 127 (fx7_47 l1 l_7 x_8 r31) mx7_47 (fun u50 g50 =>
                                                .br u50.1
                                                  (.idx l1.1 x_8 l1.2.1 2 (fun a51 =>
                                                    .load a51 .str (fun s52 =>
                                                      .load (a51.add 1) .sl (fun l53 =>
                                                        .call 29 #[.agg #[.string s52, .slice l53.1 l53.2.1 l53.2.2], .int .i64 0] (.one (.leaf (.int .i64))) (fun x54 =>
                                                          .fin .ret [(2, .slice none 0 0), (3, .int .i64 (IntKind.i64.wrap (x_8 + 1))), (4, .int .i64 x54), (5, .int .i64 65)])))))
                                                  (.br (r31.snd.snd.fst != 0)
                                                    (.fin .ret [(2, .slice none 0 0), (3, .int .i64 (IntKind.i64.wrap (x_8 + 1))), (4, .int .i64 r31.2.1), (5, .int .i64 r31.2.2.1)])
                                                    (.fin .normal [(7, .slice l_7.1 l_7.2.1 l_7.2.2), (8, .int .i64 (IntKind.i64.wrap (x_8 + 1)))])))))))))))))))))))))))))
    (.fin (.exit 0) [(7, .slice l_7.1 l_7.2.1 l_7.2.2)]) := by kernel_rfl
abbrev fx7_62 (n61 : Nat) : List (Tmp × Value) := [(14, .pointer (some ⟨n61, 0, none⟩))]
abbrev mx7_62 : List (Tmp × Comp) := [(2, .leaf .sl), (3, .leaf (.int .i64)), (4, .leaf (.int .i64)), (5, .leaf (.int .i64))]
def s7_62 : Script := .qt (.ld (.int .i64) (.ld (.int .i64) .nil))
theorem t7_62 (n61 : Nat) (gg62 : Nat → Value) : pieceT Tryz.prog (at_ Tryz.f7 [1, 1, 1, 1, 1, 1, 0, 1, 0, 0]) 127 (fx7_62 n61) gg62 (mx7_62.map (·.1)) [] [] s7_62 =
  .drawn
    (.load ⟨n61, 1, none⟩ (.int .i64) (fun x63 =>
      .load ⟨n61, 2, none⟩ (.int .i64) (fun x64 =>
        .undrawn
          (.fin .normal [(2, .slice none 0 0), (3, .int .i64 x63), (4, .int .i64 x64), (5, .int .i64 66)])))) := by kernel_rfl
def s7 : Script := .sym .nil (.cl (.one (.leaf .sl)) (.lp 0 [6] [7, 8] mx7_3 mr7_3 (.ix (.ld (.int .i64) (.ld (.int .i64) (.ld (.int .i64) (.ld .sl (.sym (.ct 0 [14] mx7_62 .nil) (.ld .sl .nil))))))) .nil))
theorem t7 (qs0 : ByteArray) : fnT Tryz.prog Tryz.f7 #[.string qs0] s7 =
  .br (Decidable.decide ((↑qs0.size : Int) > 8000))
    (.done (.returned (.tuple #[.slice none 0 0, .int .i64 0, .int .i64 0, .int .i64 60])))
    (.call 23 #[.string qs0] (.one (.leaf .sl)) (fun l1 =>
      .new (.cells #[.int .i64 1, .int .i64 0, .int .i64 0, .slice none 0 0] 73 (0, 0)) (fun n2 =>
        .loop (at_ Tryz.f7 [1, 1, 1, 1, 0, 1, 0, 0]) 127 (fx7_3 l1) [(7, .slice (some ⟨n2, 0, none⟩) 1 1), (8, .int .i64 0)] mx7_3 mr7_3 0 (fun u55 g55 =>
          .idx u55.1.1 (IntKind.i64.wrap ((↑u55.fst.snd.fst : Int) - 1)) u55.1.2.1 4 (fun a56 =>
            .load a56 (.int .i64) (fun x57 =>
              .load (a56.add 1) (.int .i64) (fun x58 =>
                .load (a56.add 2) (.int .i64) (fun x59 =>
                  .load (a56.add 3) .sl (fun l60 =>
                    .new (.cells #[.int .i64 0, .int .i64 0, .int .i64 0, .slice none 0 0] 73 (0, 0)) (fun n61 =>
                      .store ⟨n61, 0, none⟩ (.int .i64 x57)
                        (.store ⟨n61, 1, none⟩ (.int .i64 x58)
                          (.store ⟨n61, 2, none⟩ (.int .i64 x59)
                            (.store ⟨n61, 3, none⟩ (.slice l60.1 l60.2.1 l60.2.2)
                              (.br (Decidable.decide ((↑u55.fst.snd.fst : Int) > 1))
                                (.cut (at_ Tryz.f7 [1, 1, 1, 1, 1, 1, 0, 1, 0, 0]) 127 (fx7_62 n61) mx7_62 (fun u65 g65 =>
                                  .done (.returned (.tuple #[.slice u65.1.1 u65.1.2.1 u65.1.2.2, .int .i64 u65.2.1, .int .i64 u65.2.2.1, .int .i64 u65.2.2.2.1]))))
                                (.load ⟨n61, 3, none⟩ .sl (fun l66 =>
                                  .done (.returned (.tuple #[.slice l66.1 l66.2.1 l66.2.2, .int .i64 0, .int .i64 0, .int .i64 0]))))))))))))))) (fun u67 g67 =>
          .done (.returned (.tuple #[.slice u67.1.1 u67.1.2.1 u67.1.2.2, .int .i64 u67.2.1, .int .i64 u67.2.2.1, .int .i64 u67.2.2.2.1])))))) := by kernel_rfl

/-! ### In plain Lean -/
theorem words_le (L : Nat) : ∀ (f : Nat) (r : List UInt8), (wordsF L f r).length ≤ f
  | 0, _ => by simp [wordsF]
  | f + 1, r => by
    unfold wordsF
    split
    · simp
    · have := words_le L f (afterS r)
      simp only [List.length_cons]
      omega
theorem wordsR_le (L : Nat) (r : List UInt8) : (wordsR L r).length ≤ r.length + 1 := words_le L _ r
theorem rep_beg (L no at_ : Nat) (r : List UInt8) (xs : List BlkM) : repM L no at_ r xs = match begM L no at_ r with
    | .error e => .error e
    | .ok x => .ok (x :: xs) := by
  unfold repM begM
  cases numM false (wordS r) with
  | none => rfl
  | some n =>
    dsimp only
    by_cases h : n < 1 ∨ 2000 < n
    · rw [if_pos h, if_pos h]
    · rw [if_neg h, if_neg h]
      cases endM L (afterS r) with
      | error e => rfl
      | ok u => rfl
theorem line_fin (no : Nat) (l : List UInt8) (top : BlkM) (below : List BlkM) : lineM no l (top :: below) =
    if wordS l = wRepeat then match begM l.length no (l.length - (skipS l).length) (afterS l) with
        | .error e => .error e
        | .ok x => .ok (x :: top :: below)
    else if wordS l = wEnd then finM l.length (l.length - (skipS l).length) (afterS l) (top :: below)
    else if kindM (wordS l) = 0 then .error (l.length - (skipS l).length, 61)
    else match opM l.length (kindM (wordS l)) (afterS l) with
      | .error e => .error e
      | .ok o => if top.ops.length = 2000 then .error (l.length - (skipS l).length, 65)
        else .ok ({ top with ops := top.ops ++ [o] } :: below) := by
  rw [line_def, rep_beg]
  cases below with
  | nil => rfl
  | cons a r => rfl
theorem beg_few {L no at_ : Nat} {r : List UInt8} {x : BlkM} (h : begM L no at_ r = .ok x) : FewB x := by
  unfold begM at h
  split at h
  · cases h
  · split at h
    · cases h
    · split at h <;> cases h
      exact ⟨by simp, by dsimp only; omega, fun o ho => by cases ho⟩
theorem line_few {no : Nat} {l : List UInt8} {xs xs' : List BlkM} (h : lineM no l xs = .ok xs') (hl : l.length ≤ 10000) (hf : ∀ x ∈ xs, FewB x) : ∀ x ∈ xs', FewB x := by
  cases xs with
  | nil => unfold lineM at h; cases h
  | cons top below =>
    rw [line_fin] at h
    have h0 := hf top (.head _)
    split at h
    · split at h
      · cases h
      · rename_i x hx
        cases h
        intro y hy
        rcases List.mem_cons.1 hy with rfl | hy
        · exact beg_few hx
        · exact hf y hy
    · split at h
      · cases below with
        | nil => unfold finM at h; cases h
        | cons around rest =>
          unfold finM at h
          dsimp only at h
          cases he : endM l.length (afterS l) with
          | error e => rw [he] at h; cases h
          | ok u =>
            rw [he] at h
            dsimp only at h
            by_cases hle : 2000 < around.ops.length + top.times * top.ops.length
            · rw [if_pos hle] at h; cases h
            · rw [if_neg hle] at h
              cases h
              have h1 := hf around (.tail _ (.head _))
              intro y hy
              rcases List.mem_cons.1 hy with rfl | hy
              · refine ⟨by dsimp only; rw [List.length_append, rep_len]; omega, h1.2.1, fun o ho => ?_⟩
                rcases List.mem_append.1 ho with ho | ho
                · exact h1.2.2 o ho
                · obtain ⟨l, hl1, hl2⟩ := List.mem_flatten.1 ho
                  rw [(List.mem_replicate.1 hl1).2] at hl2
                  exact h0.2.2 o hl2
              · exact hf y (.tail _ (.tail _ hy))
      · split at h
        · cases h
        · split at h
          · cases h
          · rename_i o ho
            split at h
            · cases h
            · cases h
              intro y hy
              rcases List.mem_cons.1 hy with rfl | hy
              · have h1 := h0.1
                refine ⟨by dsimp only; rw [List.length_append, List.length_singleton]; omega, h0.2.1, fun o' ho' => ?_⟩
                rcases List.mem_append.1 ho' with ho' | ho'
                · exact h0.2.2 o' ho'
                · rw [List.mem_singleton] at ho'
                  subst ho'
                  have h1 := op_keep ho
                  have h2 := after_le l
                  omega
              · exact hf y (.tail _ hy)
/-- The outermost block's times don't matter. -/
def mod1 : List BlkM → List BlkM
  | [] => []
  | [b] => [{ b with times := 1 }]
  | a :: b :: r => a :: mod1 (b :: r)
theorem mod1_cons (a : BlkM) {l : List BlkM} (h : l ≠ []) : mod1 (a :: l) = a :: mod1 l := by
  cases l with
  | nil => exact absurd rfl h
  | cons b r => rfl
theorem line_mod (no : Nat) (l : List UInt8) (xs : List BlkM) (h : xs ≠ []) : lineM no l (mod1 xs) = match lineM no l xs with
    | .error e => .error e
    | .ok xs' => .ok (mod1 xs') := by
  match xs, h with
  | [b], _ =>
    show lineM no l [{ b with times := 1 }] = _
    rw [line_fin, line_fin]
    split
    · cases begM l.length no (l.length - (skipS l).length) (afterS l) with
      | error e => rfl
      | ok x => rfl
    · split
      · rfl
      · split
        · rfl
        · cases opM l.length (kindM (wordS l)) (afterS l) with
          | error e => rfl
          | ok o =>
            dsimp only
            split
            · rfl
            · rfl
  | a :: b :: r, _ =>
    rw [mod1_cons a (by simp), line_fin, line_fin]
    split
    · cases begM l.length no (l.length - (skipS l).length) (afterS l) with
      | error e => rfl
      | ok x => rfl
    · split
      · cases r with
        | nil =>
          show finM _ _ _ [a, { b with times := 1 }] = _
          unfold finM
          cases endM l.length (afterS l) with
          | error e => rfl
          | ok u =>
            dsimp only
            split
            · rfl
            · rfl
        | cons c r =>
          rw [mod1_cons b (by simp)]
          unfold finM
          cases endM l.length (afterS l) with
          | error e => rfl
          | ok u =>
            dsimp only
            split
            · rfl
            · rfl
      · split
        · rfl
        · cases opM l.length (kindM (wordS l)) (afterS l) with
          | error e => rfl
          | ok o =>
            dsimp only
            split
            · rfl
            · rfl
theorem lines_mod : ∀ (ls : List (List UInt8)) (no : Nat) (xs : List BlkM), xs ≠ [] → linesM no ls (mod1 xs) = match linesM no ls xs with
    | .error e => .error e
    | .ok xs' => .ok (mod1 xs')
  | [], no, xs, h => rfl
  | l :: ls, no, xs, h => by
    unfold linesM
    split
    · exact lines_mod ls (no + 1) xs h
    · rw [line_mod no l xs h]
      cases hl : lineM no l xs with
      | error e => rfl
      | ok xs' => exact lines_mod ls (no + 1) xs' (line_ne hl).1
theorem lines_ne : ∀ (ls : List (List UInt8)) (no : Nat) (xs xs' : List BlkM), xs ≠ [] → linesM no ls xs = .ok xs' → xs' ≠ []
  | [], no, xs, xs', h, e => by unfold linesM at e; cases e; exact h
  | l :: ls, no, xs, xs', h, e => by
    unfold linesM at e
    split at e
    · exact lines_ne ls _ xs xs' h e
    · cases hl : lineM no l xs with
      | error er => rw [hl] at e; cases e
      | ok xs2 => rw [hl] at e; exact lines_ne ls _ xs2 xs' (line_ne hl).1 e
theorem parse_one (t : List UInt8) : parseSc t = if 8000 < t.length then .error (0, 0, 60)
    else match linesM 1 (splitM t) [⟨[], 1, 0, 0⟩] with
      | .error e => .error e
      | .ok [b] => .ok b.ops
      | .ok (b :: _) => .error (b.no, b.place, 66)
      | .ok [] => .error (0, 0, 0) := by
  unfold parseSc
  by_cases h : 8000 < t.length
  · rw [if_pos h, if_pos h]
  · rw [if_neg h, if_neg h]
    have := lines_mod (splitM t) 1 [⟨[], 0, 0, 0⟩] (by simp)
    rw [show mod1 [⟨[], 0, 0, 0⟩] = [⟨[], 1, 0, 0⟩] from rfl] at this
    rw [this]
    cases linesM 1 (splitM t) [⟨[], 0, 0, 0⟩] with
    | error e => rfl
    | ok xs =>
      match xs with
      | [] => rfl
      | [b] => rfl
      | a :: b :: r => dsimp only; rw [mod1_cons a (by simp)]; cases hr : mod1 (b :: r) with
        | nil => cases r <;> cases hr
        | cons c d => rfl
/-! ### The walk -/
theorem BS.push {B : Nat} {w w' : World} {q q' : Option Addr} {m d d' : Nat} {zs : List Zn} {x : BlkM} {news : List Value} (S : BS B w q m d zs) (g : Grew B tRBlk 4 w q m d w' q' (m + 1) d' (blkCells zs ++ news)) (hn : news = blkC ⟨none, 0, 0, x⟩) (hx : x.ops = []) : BS B w' q' (m + 1) d' (zs ++ [⟨none, 0, 0, x⟩]) := by
  subst hn
  refine ⟨?_, fun z hz => ?_, fun z hz => ?_, ?_⟩
  · rw [blkCells_app, blkCells_one]
    exact g.own
  · rcases List.mem_append.1 hz with hz | hz
    · exact (S.ops z hz).ch g.ch ((S.ops z hz).away (noTy_row S.row (by decide))) (noTy_row S.row (by decide))
    · rw [List.mem_singleton] at hz
      subst hz
      dsimp only
      rw [hx]
      exact OpsRow.nil _
  · rcases List.mem_append.1 hz with hz | hz
    · exact S.lo z hz
    · rw [List.mem_singleton] at hz
      subst hz
      intro k hk
      unfold zS rowS at hk
      simp [Value.ownBlock] at hk
  · refine List.pairwise_append.2 ⟨S.apart, List.pairwise_singleton _ _, fun y hy u hu k hk hk' => ?_⟩
    rw [List.mem_singleton] at hu
    subst hu
    unfold zS rowS at hk'
    simp [Value.ownBlock] at hk'
theorem few_of {zs : List Zn} (h : ∀ x ∈ xsOf zs, FewB x) : ∀ z ∈ zs, FewB z.x := fun z hz => h z.x (by unfold xsOf; rw [List.mem_reverse]; exact List.mem_map.2 ⟨z, hz, rfl⟩)
set_option maxHeartbeats 1000000 in
theorem rparse_any (s : ByteArray) (w : World) :
    Calls Tryz.prog 7 #[.string s] w fun e w' => Ch No w w' ∧ match parseSc s.data.toList with
      | .ok ops => ∃ p n c, e = .returned (.tuple #[.slice p n c, .int .i64 0, .int .i64 0, .int .i64 0]) ∧ OpsRow w' p n c ops
      | .error (l, pl, cd) => e = .returned (.tuple #[.slice none 0 0, .int .i64 l, .int .i64 pl, .int .i64 cd]) ∧ cd ≠ 0 := by
  refine calls_of_fnT mixed Tryz.func7 (s := s7) ?_
  rw [t7, parse_one]
  have hsl : s.data.toList.length = s.size := rfl
  rw [hsl]
  refine br_both (fun e => ?_) fun e => ?_
  · have e : 8000 < s.size := by have := gt_t e; omega
    rw [if_pos e]
    exact ⟨Ch.refl _ _, rfl, by decide⟩
  have hs : s.size ≤ 8000 := by have := gt_f e; omega
  rw [if_neg (by omega)]
  clear e
  refine cl_i (rlines_any s (by omega) w) ?_
  rintro e w1 ⟨h1, lp, n, lc, es, rfl, AL, hsp, hn, hnc, hle⟩
  refine ⟨(lp, n, lc), rfl, nw fun w2 h2 z2 b2 => ?_⟩
  generalize hRES : linesM 1 (splitM s.data.toList) [⟨[], 1, 0, 0⟩] = RES
  generalize hB : w1.heap.size = B at *
  have S2 : BS B w2 (some ⟨B, 0, none⟩) 1 1 [⟨none, 0, 0, ⟨[], 1, 0, 0⟩⟩] := by
    refine ⟨⟨rfl, .inr ⟨B, 1, #[.int .i64 1, .int .i64 0, .int .i64 0, .slice none 0 0], rfl, Nat.le_refl _, b2, Nat.le_refl _, by unfold maxLen; omega, rfl, rfl⟩⟩, fun z hz => ?_, fun z hz k hk => ?_, List.pairwise_singleton _ _⟩
    · rw [List.mem_singleton] at hz
      subst hz
      exact OpsRow.nil _
    · rw [List.mem_singleton] at hz
      subst hz
      unfold zS rowS at hk
      simp [Value.ownBlock] at hk
  have hLlen : (es.map (·.s)).length = n := by rw [List.length_map]; exact AL.1
  refine loop_i mixed m7_3 s7_3 (by kernel_rfl) (by kernel_rfl)
    (fun (v : (Option Addr × Nat × Nat) × Int × Unit) w' => ∃ (i : Nat) (zs : List Zn), v.2.1 = i ∧ i ≤ n ∧ Ch No w1 w' ∧ BS B w' v.1.1 v.1.2.1 v.1.2.2 zs ∧ zs ≠ [] ∧ zs.length ≤ i + 1 ∧ (∀ x ∈ xsOf zs, FewB x) ∧ linesM (1 + i) ((es.map (·.s)).drop i) (xsOf zs) = RES)
    (fun (v : (Option Addr × Nat × Nat) × Int × Unit) _ => n - v.2.1.toNat) ((some ⟨B, 0, none⟩, 1, 1), 0, ()) rfl ⟨0, _, rfl, Nat.zero_le _, h2, S2, by simp, by simp, (fun x hx => by
      have : x = ⟨[], 1, 0, 0⟩ := by simpa [xsOf] using hx
      subst this
      exact ⟨by simp, by simp, fun o ho => by cases ho⟩), by rw [List.drop_zero, hsp]; exact hRES⟩ ?_
  rintro ⟨⟨q, m, d⟩, (iv : Int), ⟨⟩⟩ g w3 ⟨i, zs, (hi : iv = _), hin, h3, (S3 : BS B w3 q m d zs), hne, hzl, hfew, hlm⟩
  subst hi
  rw [t7_3]
  have hm3 := S3.len
  have AL3 := AL.no h3
  have hB3 : B ≤ w3.heap.size := by have := h3.size; omega
  refine br_both (fun e => ?_) fun e => ?_
  · have hin1 : i < n := by have e : (i : Int) < (n : Int) := lt_t e; omega
    clear e
    obtain ⟨x, hx⟩ : ∃ u, es[i]? = some u := ⟨_, List.getElem?_eq_getElem (by rw [AL.1]; exact hin1)⟩
    obtain ⟨gl, ol, rfl, hcl⟩ := AL.2.1 (by omega)
    have hxl := hle x (List.mem_of_getElem? hx)
    have hbs : (bytesL x.s).size = x.s.length := tb_size _
    have hA : ∀ {w'}, Ch No w1 w' → AtW w' x.p x.n (wordsR (bytesL x.s).size (bytesL x.s).data.toList) := fun hc => (AL.2.2 x (List.mem_of_getElem? hx)).no hc
    have hxn : x.n ≤ 10001 := by
      have h1 := (hA (Ch.refl _ _)).1
      have h2 := wordsR_le (bytesL x.s).size (bytesL x.s).data.toList
      rw [tb_data] at h1 h2
      omega
    have hcell : ∀ {w'}, Ch No w1 w' → w'.cell? ⟨gl, ol + i * 2, none⟩ = some (.string (bytesL x.s)) ∧ w'.cell? ⟨gl, ol + i * 2 + 1, none⟩ = some (.slice x.p x.n x.c) := fun hc => ⟨hc.cellv (hcl i x hx).1 (fun h => h), hc.cellv (hcl i x hx).2 (fun h => h)⟩
    have hix : ∀ {R : Ending → World → Prop} {Q : Exit → List (Tmp × Value) → World → Prop} {f : ByteArray → Option Addr × Nat × Nat → T} {w' : World}, Ch No w1 w' → wpT Tryz.prog R Q (f (bytesL x.s) (x.p, x.n, x.c)) .pl w' → wpT Tryz.prog R Q (.idx (some ⟨gl, ol, none⟩) (i : Int) n 2 fun a => .load a .str fun s => .load (a.add 1) .sl fun l => f s l) .pl w' := fun {R Q f w'} hc h => by
      refine ix_i (by omega) (by omega) ?_
      rw [addr_add, addr_add, Int.toNat_natCast]
      exact ld_str (hcell hc).1 (ld_sl (hcell hc).2 h)
    have hdr : (es.map (·.s)).drop i = x.s :: (es.map (·.s)).drop (i + 1) := by
      have hx' : (es.map (·.s))[i]? = some x.s := by rw [List.getElem?_map, hx]; rfl
      obtain ⟨hlt, he⟩ := List.getElem?_eq_some_iff.1 hx'
      rw [List.drop_eq_getElem_cons hlt, he]
    rw [hdr, linesM] at hlm
    have hw1 : IntKind.i64.wrap ((i : Int) + 1) = ((i + 1 : Nat) : Int) := by rw [wrap_succ (by omega) (by omega)]; rfl
    refine hix h3 (cl_i (rpassed_any (bytesL x.s) x.p x.n x.c w3 (hA h3)) ?_)
    rintro e' w4 ⟨rfl, h4⟩
    refine ⟨_, rfl, ?_⟩
    have S4 := S3.no h4
    have h14 := h3.trans h4
    refine br_both (fun e' => ?_) fun e' => ?_
    · have e' : passed x.s = true := e'
      rw [if_pos e'] at hlm
      refine ⟨((q, m, d), ((i + 1 : Nat) : Int), ()), ?_, ⟨i + 1, zs, rfl, hin1, h14, S4, hne, by omega, hfew, ?_⟩, by dsimp only; omega⟩
      · rw [hw1]; rfl
      · rw [← Nat.add_assoc]; exact hlm
    have e' : passed x.s = false := e'
    rw [if_neg (by rw [e']; decide)] at hlm
    clear e'
    -- how a line ends
    have good : ∀ {zs' : List Zn}, lineM (1 + i) x.s (xsOf zs) = .ok (xsOf zs') → zs' ≠ [] ∧ zs'.length ≤ i + 1 + 1 ∧ (∀ x ∈ xsOf zs', FewB x) ∧ linesM (1 + (i + 1)) ((es.map (·.s)).drop (i + 1)) (xsOf zs') = RES := fun {zs'} hl => by
      have h1 := line_ne hl
      have hz1 : ∀ zs : List Zn, (xsOf zs).length = zs.length := fun zs => by simp [xsOf]
      refine ⟨fun h => h1.1 (by rw [h]; rfl), ?_, line_few hl (by omega) hfew, ?_⟩
      · have := h1.2
        rw [hz1, hz1] at this
        omega
      · rw [hl] at hlm
        rw [← Nat.add_assoc]; exact hlm
    have bad : ∀ {pl : Nat} {cd : Int}, lineM (1 + i) x.s (xsOf zs) = .error (pl, cd) → RES = .error (i + 1, pl, cd) := fun {pl cd} hl => by
      rw [hl] at hlm
      rw [← hlm, Nat.add_comm 1 i]
    obtain ⟨zs, z, rfl⟩ : ∃ a b, zs = a ++ [b] := ⟨zs.dropLast, zs.getLast hne, (List.dropLast_concat_getLast hne).symm⟩
    have hlf := (congrArg (lineM (1 + i) x.s) (xsOf_app zs z)).trans (line_fin (1 + i) x.s z.x (xsOf zs))
    have hsk0 : (bytesL x.s).size - (skipS (aft 0 (bytesL x.s).data.toList)).length = x.s.length - (skipS x.s).length := by rw [hbs]; rfl
    refine hix h14 (cl_i (rword_any (bytesL x.s) x.p x.n x.c 0 w4 (hA h14)) ?_)
    rintro e' w5 ⟨rfl, h5⟩
    refine ⟨_, rfl, ?_⟩
    have S5 := S4.no h5
    have h15 := h14.trans h5
    have h35 := h4.trans h5
    have hw0 : (bytesL (wordS (aft 0 (bytesL x.s).data.toList))).toList = wordS x.s := tb_list _
    rw [hw0, tb_list]
    clear hw0
    refine br_both (fun e' => ?_) fun e' => ?_
    · have hw : wordS x.s = wRepeat := eq_of_beq e'
      rw [if_pos hw] at hlf
      refine nw fun w6 h6 z6 b6 => hix (h15.trans h6) (cl_i (rbeg_any (bytesL x.s) x.p x.n x.c i (by omega) w6 (hA (h15.trans h6))) ?_)
      rintro e2 w7 ⟨h7, hr⟩
      have S7 := (S5.no h6).no h7
      have h17 := (h15.trans h6).trans h7
      have b7 := b6.ch h7 (fun h => h)
      have hbeq : begM (bytesL x.s).size (i + 1) ((bytesL x.s).size - (skipS (bytesL x.s).data.toList).length) (aft 1 (bytesL x.s).data.toList) = begM x.s.length (1 + i) (x.s.length - (skipS x.s).length) (afterS x.s) := by rw [hbs, Nat.add_comm]; rfl
      rw [hbeq] at hr
      have tail : ∀ {bk bn ba pl cd : Int} {kx kr}, (cd ≠ 0 → ∀ w', Ch No w1 w' → wpT Tryz.prog kr kx (.fin .ret [(2, .slice none 0 0), (3, .int .i64 (IntKind.i64.wrap ((i : Int) + 1))), (4, .int .i64 pl), (5, .int .i64 cd)]) .pl w') →
          (cd = 0 → ∀ q' d' w' w8, Ch No w1 w' → BS B w8 q m d (zs ++ [z]) → Grew B tRBlk 4 w8 q m d w' q' (m + 1) d' (blkCells (zs ++ [z]) ++ [.int .i64 bk, .int .i64 bn, .int .i64 ba, .slice none 0 0]) → wpT Tryz.prog kr kx (.fin .normal [(7, .slice q' (m + 1) d'), (8, .int .i64 (IntKind.i64.wrap ((i : Int) + 1)))]) .pl w') →
          wpT Tryz.prog kr kx (.store ⟨w5.heap.size, 0, none⟩ (.int .i64 bk) (.store ⟨w5.heap.size, 1, none⟩ (.int .i64 bn) (.store ⟨w5.heap.size, 2, none⟩ (.int .i64 ba) (.store ⟨w5.heap.size, 3, none⟩ (.slice none 0 0)
            (.load ⟨w5.heap.size, 0, none⟩ (.int .i64) fun x17 => .load ⟨w5.heap.size, 1, none⟩ (.int .i64) fun x18 => .load ⟨w5.heap.size, 2, none⟩ (.int .i64) fun x19 => .load ⟨w5.heap.size, 3, none⟩ .sl fun l20 =>
              .new (.cells #[.int .i64 x17, .int .i64 x18, .int .i64 x19, .slice l20.1 l20.2.1 l20.2.2] tRBlk (0, 0)) fun n21 =>
              .run (builtin .append #[tRBlks, tRBlks] tRBlks #[false, false] #[.slice q m d, .slice (some ⟨n21, 0, none⟩) 1 1]) (.one (.leaf .sl)) fun l22 =>
                .br (cd != 0) (.fin .ret [(2, .slice none 0 0), (3, .int .i64 (IntKind.i64.wrap ((i : Int) + 1))), (4, .int .i64 pl), (5, .int .i64 cd)])
                  (.fin .normal [(7, .slice l22.1 l22.2.1 l22.2.2), (8, .int .i64 (IntKind.i64.wrap ((i : Int) + 1)))])))))) .pl w7 := by
        intro bk bn ba pl cd kx kr hbad hgood
        refine st4 (x0 := .int .i64 bk) (x1 := .int .i64 bn) (x2 := .int .i64 ba) (x3 := .slice none 0 0) b7 rfl rfl rfl rfl fun w8 h8 b8 => ?_
        refine ld_int (b8.cell 0) (ld_int (b8.cell 1) (ld_int (b8.cell 2) (ld_sl (b8.cell 3) (nw fun w9 h9 z9 b9 => ?_))))
        have h18 : Ch No w1 w8 := h17.then_ h8 (fun k hk (e : k = _) => by have := h15.size; omega)
        have hne5 : ∀ k, rowS q m d k → ¬ k = w5.heap.size := fun k hk e => by have := (S5.row.lt hk).2; omega
        have S8 : BS B w8 q m d (zs ++ [z]) := S7.ch h8 hne5 (fun z hz k hk e => by have := (S5.ops z hz).lt hk; omega) (noTy_blk b7 (by decide))
        have S9 := S8.no h9
        have hml : m ≤ 100000 := by omega
        refine ap_blk (by kernel_rfl) infoRBlk rfl (by omega) S9.row (by have := h18.size; have := h9.size; omega) b9 (by simp) (fun u hu => by simp at hu; rcases hu with rfl | rfl | rfl | rfl <;> rfl) (by unfold maxLen; omega) (by omega) fun q' d' w10 g10 => ?_
        have h110 : Ch No w1 w10 := (h18.trans h9).then_ g10.ch (fun k hk hS => by have := (S9.row.lt hS).1; omega)
        by_cases hcd : cd = 0
        · subst hcd
          exact br_false rfl (hgood rfl q' d' w10 w9 h110 S9 g10)
        · exact br_true (by simpa using hcd) (hbad hcd w10 h110)
      cases hbg : begM x.s.length (1 + i) (x.s.length - (skipS x.s).length) (afterS x.s) with
      | error er =>
        obtain ⟨pl, cd⟩ := er
        rw [hbg] at hr hlf
        obtain ⟨rfl, hcd⟩ := hr
        refine ⟨((0, 0, 0, (none, 0, 0), ()), (pl : Int), cd, ()), rfl, tail (fun _ w' h1w => ⟨((none, 0, 0), ((i + 1 : Nat) : Int), (pl : Int), cd, ()), ?_, fun g => ?_⟩) (fun h => absurd h hcd)⟩
        · rw [hw1]; rfl
        · rw [bad hlf]
          exact ⟨h1.trans h1w, rfl, hcd⟩
      | ok y =>
        rw [hbg] at hr hlf
        subst hr
        refine ⟨((y.times, y.no, y.place, (none, 0, 0), ()), (0 : Int), (0 : Int), ()), rfl, tail (fun h => absurd rfl h) (fun _ q' d' w' w8 h1w S8 g8 => ?_)⟩
        have hy0 : y.ops = [] := by
          unfold begM at hbg
          split at hbg
          · cases hbg
          · split at hbg
            · cases hbg
            · split at hbg <;> cases hbg
              rfl
        have P := S8.push g8 rfl hy0
        obtain ⟨k1, k2, k3, k4⟩ := good (zs' := zs ++ [z] ++ [⟨none, 0, 0, y⟩]) (by rw [hlf, xsOf_app, xsOf_app])
        refine ⟨((q', m + 1, d'), ((i + 1 : Nat) : Int), ()), ?_, ⟨i + 1, _, rfl, hin1, h1w, P, k1, k2, k3, k4⟩, by dsimp only; omega⟩
        rw [hw1]; rfl
    have hw : wordS x.s ≠ wRepeat := fun h => by rw [h] at e'; cases e'
    rw [if_neg hw] at hlf
    clear e'
    refine br_both (fun e' => ?_) fun e' => ?_
    · have hw2 : wordS x.s = wEnd := by rw [tb_list] at e'; exact eq_of_beq e'
      rw [if_pos hw2] at hlf
      refine hix h15 (cl_i (rfin_any B q m d (zs ++ [z]) (bytesL x.s) x.p x.n x.c w5 (hA h15) S5 (by have := h15.size; omega) (by simp) (few_of hfew) (by omega)) ?_)
      rintro e2 w6 ⟨h6, hr⟩
      have h16 : Ch No w1 w6 := h15.then_ h6 (fun k hk hS => by omega)
      have hfeq : finM (bytesL x.s).size ((bytesL x.s).size - (skipS (bytesL x.s).data.toList).length) (aft 1 (bytesL x.s).data.toList) (xsOf (zs ++ [z])) = finM x.s.length (x.s.length - (skipS x.s).length) (afterS x.s) (z.x :: xsOf zs) := by rw [hbs, xsOf_app]; rfl
      rw [hfeq] at hr
      cases hfn : finM x.s.length (x.s.length - (skipS x.s).length) (afterS x.s) (z.x :: xsOf zs) with
      | error er =>
        obtain ⟨pl, cd⟩ := er
        rw [hfn] at hr hlf
        obtain ⟨q', m', d', rfl, hcd⟩ := hr
        have t1 : (cd != 0) = true := by simpa using hcd
        refine ⟨((q', m', d'), (pl : Int), cd, ()), rfl, br_true t1 ⟨((none, 0, 0), ((i + 1 : Nat) : Int), (pl : Int), cd, ()), ?_, fun g => ?_⟩⟩
        · rw [hw1]; rfl
        · rw [bad hlf]
          exact ⟨h1.trans h16, rfl, hcd⟩
      | ok xs' =>
        rw [hfn] at hr hlf
        obtain ⟨q', m', d', zs', rfl, S6, rfl⟩ := hr
        obtain ⟨k1, k2, k3, k4⟩ := good hlf
        refine ⟨((q', m', d'), (0 : Int), (0 : Int), ()), rfl, br_false rfl ⟨((q', m', d'), ((i + 1 : Nat) : Int), ()), ?_, ⟨i + 1, zs', rfl, hin1, h16, S6, k1, k2, k3, k4⟩, by dsimp only; omega⟩⟩
        rw [hw1]; rfl
    have hw2 : wordS x.s ≠ wEnd := fun h => by rw [tb_list, h] at e'; cases e'
    rw [if_neg hw2] at hlf
    clear e'
    refine nw fun w6 h6 z6 b6 => hix (h15.trans h6) (cl_i (rstep_any (bytesL x.s) x.p x.n x.c w6 (hA (h15.trans h6)) hxn) ?_)
    rintro e2 w7 ⟨h7, hr⟩
    have h17 := (h15.trans h6).trans h7
    have S7 := (S5.no h6).no h7
    have b7 := b6.ch h7 (fun h => h)
    have hseq : (if kindM (wordS (bytesL x.s).data.toList) = 0 then (.error ((bytesL x.s).size - (skipS (bytesL x.s).data.toList).length, 61) : PRes OpM) else opM (bytesL x.s).size (kindM (wordS (bytesL x.s).data.toList)) (aft 1 (bytesL x.s).data.toList)) = if kindM (wordS x.s) = 0 then .error (x.s.length - (skipS x.s).length, 61) else opM x.s.length (kindM (wordS x.s)) (afterS x.s) := by rw [hbs]; rfl
    rw [hseq] at hr
    have hlf2 : lineM (1 + i) x.s (xsOf (zs ++ [z])) = match (if kindM (wordS x.s) = 0 then (.error (x.s.length - (skipS x.s).length, 61) : PRes OpM) else opM x.s.length (kindM (wordS x.s)) (afterS x.s)) with
        | .error e => .error e
        | .ok o => if z.x.ops.length = 2000 then .error (x.s.length - (skipS x.s).length, 65) else .ok ({ z.x with ops := z.x.ops ++ [o] } :: xsOf zs) := by
      rw [hlf]
      by_cases hk0 : kindM (wordS x.s) = 0
      · rw [if_pos hk0, if_pos hk0]
      · rw [if_neg hk0, if_neg hk0]
        cases opM x.s.length (kindM (wordS x.s)) (afterS x.s) with
        | error e => rfl
        | ok o => rfl
    clear hlf hseq
    generalize hOP : (if kindM (wordS x.s) = 0 then (.error (x.s.length - (skipS x.s).length, 61) : PRes OpM) else opM x.s.length (kindM (wordS x.s)) (afterS x.s)) = OP at *
    have hzm : z ∈ zs ++ [z] := by simp
    have hfz := few_of hfew z hzm
    have hml : m = zs.length + 1 := by rw [hm3, List.length_append, List.length_singleton]
    have hzl' : zs.length ≤ 100000 := by rw [List.length_append, List.length_singleton] at hzl; omega
    have e3 : IntKind.i64.wrap ((m : Int) - 1) = (zs.length : Int) := by rw [wrap_in (by omega) (by omega)]; omega
    have hB7 : B ≤ w7.heap.size := by have := h17.size; omega
    cases OP with
    | error er =>
      obtain ⟨pl, cd⟩ := er
      obtain ⟨k, a, b, rfl, hcd⟩ := hr
      refine ⟨((k, a, b, (none, 0, 0), ()), (pl : Int), cd, ()), rfl, ?_⟩
      refine st4 (x0 := .int .i64 k) (x1 := .int .i64 a) (x2 := .int .i64 b) (x3 := .slice none 0 0) b7 rfl rfl rfl rfl fun w8 h8 b8 => ?_
      have h18 : Ch No w1 w8 := h17.then_ h8 (fun k hk (e : k = _) => by have := h15.size; omega)
      have S8 : BS B w8 q m d (zs ++ [z]) := S7.ch h8 (fun k hk e => by have := (S5.row.lt hk).2; omega) (fun z hz k hk e => by have := (S5.ops z hz).lt hk; omega) (noTy_blk b7 (by decide))
      refine cut_i mixed s7_32 (fun (v : Unit) w' => ∃ q' c', PutZ B w8 q m d zs z ⟨k, a, b, []⟩ w' q' c') (by kernel_rfl) (fun g => ?_) ?_
      · rw [t7_32]
        simp only [e3]
        refine putz (o := ⟨k, a, b, []⟩) (p := none) (kn := 0) (kc := 0) S8 (by have := h8.size; omega) (by have := hfz.1; omega) (Row.nil _ _ _ _) b8 (fun hk => ?_) fun w' q' c' P => ⟨rfl, (), rfl, q', c', P⟩
        have := (S5.ops z hzm).lt hk
        omega
      rintro ⟨⟩ g w9 ⟨q', c', P⟩
      have h19 : Ch No w1 w9 := h18.then_ P.ch (fun k hk hS => by
        rcases hS with hS | hS
        · have := S8.lo z hzm k hS; omega
        · have := (S8.row.lt hS).1; omega)
      have t0 : (cd == 0) = false := by simpa using hcd
      have t1 : (cd != 0) = true := by simpa using hcd
      refine cut_i mixed s7_47 (fun (v : Bool × Unit) w' => w' = w9 ∧ v.1 = false) (by kernel_rfl) (fun g => ?_) ?_
      · rw [t7_47]
        exact br_false t0 ⟨rfl, (_, ()), rfl, rfl, rfl⟩
      rintro ⟨u, ⟨⟩⟩ g w10 ⟨rfl, rfl⟩
      refine br_false rfl (br_true t1 ⟨((none, 0, 0), ((i + 1 : Nat) : Int), (pl : Int), cd, ()), ?_, fun g => ?_⟩)
      · rw [hw1]; rfl
      · rw [bad hlf2]
        exact ⟨h1.trans h19, rfl, hcd⟩
    | ok o =>
      obtain ⟨kp, kn, kc, rfl, krow⟩ := hr
      refine ⟨((o.kind, o.a, o.b, (kp, kn, kc), ()), (0 : Int), (0 : Int), ()), rfl, ?_⟩
      refine st4 (x0 := .int .i64 o.kind) (x1 := .int .i64 o.a) (x2 := .int .i64 o.b) (x3 := .slice kp kn kc) b7 rfl rfl rfl rfl fun w8 h8 b8 => ?_
      have h18 : Ch No w1 w8 := h17.then_ h8 (fun k hk (e : k = _) => by have := h15.size; omega)
      have S8 : BS B w8 q m d (zs ++ [z]) := S7.ch h8 (fun k hk e => by have := (S5.row.lt hk).2; omega) (fun z hz k hk e => by have := (S5.ops z hz).lt hk; omega) (noTy_blk b7 (by decide))
      have k8 : Row w8 0 tInt 1 kp kn kc (intCells o.keep) := (krow.base (Nat.zero_le _)).ch h8 (krow.noTy (noTy_blk b7 (by decide)))
      refine cut_i mixed s7_32 (fun (v : Unit) w' => ∃ q' c', PutZ B w8 q m d zs z o w' q' c') (by kernel_rfl) (fun g => ?_) ?_
      · rw [t7_32]
        simp only [e3]
        refine putz (o := o) (p := kp) (kn := kn) (kc := kc) S8 (by have := h8.size; omega) (by have := hfz.1; omega) k8 b8 (fun hk => ?_) fun w' q' c' P => ⟨rfl, (), rfl, q', c', P⟩
        have := (S5.ops z hzm).lt hk
        omega
      rintro ⟨⟩ g w9 ⟨q', c', P⟩
      have h19 : Ch No w1 w9 := h18.then_ P.ch (fun k hk hS => by
        rcases hS with hS | hS
        · have := S8.lo z hzm k hS; omega
        · have := (S8.row.lt hS).1; omega)
      have P9 := P.bs
      have hz8 := (S8.ops z hzm).len
      refine cut_i mixed s7_47 (fun (v : Bool × Unit) w' => w' = w9 ∧ v.1 = decide (z.x.ops.length = 2000)) (by kernel_rfl) (fun g => ?_) ?_
      · rw [t7_47]
        simp only [e3]
        obtain ⟨g9, hq9, _, _, hc9⟩ := P9.last
        rw [hq9]
        refine br_true rfl (ix_i (by omega) (by show (zs.length : Int) < (m : Int); omega) ?_)
        rw [addr_add, addr_add, Int.toNat_natCast, Nat.zero_add]
        refine ld_sl (hc9 3 _ rfl) ⟨rfl, (_, ()), rfl, rfl, ?_⟩
        dsimp only
        have := hfz.1
        exact decide_eq_decide.2 ⟨fun h => by have h : (2000 : Int) < ((z.n + 1 : Nat) : Int) := h; omega, fun h => by show (2000 : Int) < ((z.n + 1 : Nat) : Int); omega⟩
      rintro ⟨u, ⟨⟩⟩ g w10 ⟨rfl, hu⟩
      dsimp only at hu
      subst hu
      dsimp only at hlf2
      refine br_both (fun e' => ?_) fun e' => ?_
      · have e' := of_decide_eq_true e'
        rw [if_pos e'] at hlf2
        refine hix h19 (cl_i (rat_any (bytesL x.s) x.p x.n x.c 0 w10 (hA h19)) ?_)
        rintro e2 w11 ⟨rfl, h11⟩
        refine ⟨_, rfl, ⟨((none, 0, 0), ((i + 1 : Nat) : Int), ((x.s.length - (skipS x.s).length : Nat) : Int), 65, ()), ?_, fun g => ?_⟩⟩
        · rw [hw1, hsk0]; rfl
        · rw [bad hlf2]
          exact ⟨(h1.trans h19).trans h11, rfl, by decide⟩
      · have e' := of_decide_eq_false e'
        rw [if_neg e'] at hlf2
        obtain ⟨k1, k2, k3, k4⟩ := good (zs' := zs ++ [⟨q', z.n + 1, c', { z.x with ops := z.x.ops ++ [o] }⟩]) (by rw [hlf2, xsOf_app])
        refine br_false rfl ⟨((q, m, d), ((i + 1 : Nat) : Int), ()), ?_, ⟨i + 1, _, rfl, hin1, h19, P9, k1, k2, k3, k4⟩, by dsimp only; omega⟩
        rw [hw1]; rfl
  · have e : n ≤ i := by have e : (n : Int) ≤ (i : Int) := lt_f e; omega
    rw [List.drop_of_length_le (by rw [hLlen]; omega)] at hlm
    unfold linesM at hlm
    subst hlm
    refine ⟨rfl, ((q, m, d), ()), rfl, fun g => ?_⟩
    obtain ⟨zs, z, rfl⟩ : ∃ a b, zs = a ++ [b] := ⟨zs.dropLast, zs.getLast hne, (List.dropLast_concat_getLast hne).symm⟩
    obtain ⟨gq, rfl, hml, hgq, hc⟩ := S3.last
    rw [List.length_append, List.length_singleton] at hzl
    have e3 : IntKind.i64.wrap ((m : Int) - 1) = (zs.length : Int) := by rw [wrap_in (by omega) (by omega)]; omega
    dsimp only
    rw [e3]
    refine ix_i (by omega) (by omega) ?_
    rw [addr_add, Int.toNat_natCast, Nat.zero_add]
    simp only [addr_add]
    refine ld_int (hc 0 _ rfl) (ld_int (hc 1 _ rfl) (ld_int (hc 2 _ rfl) (ld_sl (hc 3 _ rfl) (nw fun w4 h4 z4 b4 => ?_))))
    refine st4 (x0 := .int .i64 z.x.times) (x1 := .int .i64 z.x.no) (x2 := .int .i64 z.x.place) (x3 := .slice z.p z.n z.c) b4 rfl rfl rfl rfl fun w5 h5 b5 => ?_
    have H5 : Ch No w3 w5 := h4.then_ h5 (fun i hi (e : i = _) => by omega)
    have O5 := (S3.no H5).ops z (by simp)
    rw [xsOf_app]
    refine br_both (fun e => ?_) fun e => ?_
    · have e : (1 : Int) < (m : Int) := gt_t e
      have hne2 : zs ≠ [] := fun h => by rw [h] at hml; simp at hml; omega
      refine cut_i mixed s7_62 (fun (v : (Option Addr × Nat × Nat) × Int × Int × Int × Unit) w' => w' = w5.drew ∧ v = ((none, 0, 0), (z.x.no : Int), (z.x.place : Int), 66, ())) (by kernel_rfl) (fun g => ?_) ?_
      · rw [t7_62]
        have hd := (Ch.refl No w5).drew
        have b5d := b5.ch hd (fun h => h)
        exact dr_eq (lq_int (b5d.cell 1) (lq_int (b5d.cell 2) (un_eq ⟨rfl, (_, _, _, _, ()), rfl, rfl, rfl⟩)))
      rintro v g w6 ⟨rfl, rfl⟩
      obtain ⟨zs, za, rfl⟩ : ∃ a b, zs = a ++ [b] := ⟨zs.dropLast, zs.getLast hne2, (List.dropLast_concat_getLast hne2).symm⟩
      rw [xsOf_app]
      exact ⟨((h1.trans h3).trans H5).drew, rfl, by decide⟩
    · have e : (m : Int) ≤ 1 := gt_f e
      have : zs = [] := List.eq_nil_of_length_eq_zero (by omega)
      subst this
      refine ld_sl (b5.cell 3) ⟨(h1.trans h3).trans H5, z.p, z.n, z.c, rfl, O5⟩
end Go.Proofs.YtjlmkahagcojcaaGreatDoor
