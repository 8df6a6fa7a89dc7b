/- ValueCanon: the walk of the law. -/
import Derived.Test.YtjellmblammiaaaDoorRdz
namespace Go.Proofs.YtjellmblammiaaaDoor
open Go Tr
open Go.RowKit (Below)
set_option maxRecDepth 100000
section
variable {P : Program} {R : Ending → World → Prop} {Q : Exit → List (Tmp × Value) → World → Prop} {w : World}
/-- A value is laid into a new block. -/
theorem put_v {x : VT} {p : Option Addr} {m c : Nat} {k : Nat → T} (h : ∀ w1, Ch No w w1 → Blk w1 w.heap.size (cellsV x p m c) 24 → wpT P R Q (k w.heap.size) .pl w1) :
    wpT P R Q (.new (.cells #[.int .i64 0, .int .i64 0, .string (bytesL []), .slice none 0 0] 24 (0, 0)) (fun n => .store ⟨n, 0, none⟩ (.int .i64 x.kind) (.store ⟨n, 1, none⟩ (.int .i64 x.int) (.store ⟨n, 2, none⟩ (.string x.text) (.store ⟨n, 3, none⟩ (.slice p m c) (k n)))))) .pl w := by
  refine nw fun w1 h1 z1 b1 => st_blk b1 (by simp) rfl fun w2 h2 z2 b2 => st_blk b2 (by simp) rfl fun w3 h3 z3 b3 => st_blk b3 (by simp) rfl fun w4 h4 z4 b4 => st_blk b4 (by simp) rfl fun w5 h5 z5 b5 => ?_
  exact h w5 (h1.then_ (h2.trans (h3.trans (h4.trans h5))) (fun i hi (e : i = _) => by omega)) b5
/-- A value is loaded. -/
theorem ld_v {md : Md} [hmd : md.Runs] {b : Nat} {x : VT} {p : Option Addr} {m c : Nat} (B : Blk w b (cellsV x p m c) 24) {f : Int → Int → ByteArray → Option Addr × Nat × Nat → T} (h : wpT P R Q (f x.kind x.int x.text (p, m, c)) md w) :
    wpT P R Q (.load ⟨b, 0, none⟩ (.int .i64) (fun a => .load ⟨b, 1, none⟩ (.int .i64) (fun i => .load ⟨b, 2, none⟩ .str (fun s => .load ⟨b, 3, none⟩ .sl (fun l => f a i s l))))) md w :=
  ld_int (B.cell 0) (ld_int (B.cell 1) (ld_str (B.cell 2) (ld_sl (B.cell 3) h)))
theorem lh_v {C : World → Prop} {b : Nat} {x : VT} {p : Option Addr} {m c : Nat} (B : ∀ w, C w → Blk w b (cellsV x p m c) 24) {f : Int → Int → ByteArray → Option Addr × Nat × Nat → T} (h : wpT P R Q (f x.kind x.int x.text (p, m, c)) (.he C) w) :
    wpT P R Q (.load ⟨b, 0, none⟩ (.int .i64) (fun a => .load ⟨b, 1, none⟩ (.int .i64) (fun i => .load ⟨b, 2, none⟩ .str (fun s => .load ⟨b, 3, none⟩ .sl (fun l => f a i s l))))) (.he C) w :=
  lh_int (fun w h => (B w h).cell 0) (lh_int (fun w h => (B w h).cell 1) (lh_str (fun w h => (B w h).cell 2) (lh_sl (fun w h => (B w h).cell 3) h)))
end
theorem one_is {w : World} {b : Nat} {x : VT} {p : Option Addr} {m c : Nat} {t : TypeId} (hx : IsV w x p m c) (hb : Blk w b (cellsV x p m c) t) : IsV w (.mk 3 0 (bytesL []) [x]) (some ⟨b, 0, none⟩) 1 1 := by
  refine ⟨Nat.le_refl _, by omega, ?_⟩
  simp only [RIt, RL]
  refine ⟨rfl, fun _ => ⟨_, rfl, ⟨p, m, c, ⟨?_, ?_, ?_, ?_⟩, hx.cap, hx.big, hx.its⟩, trivial⟩⟩ <;> simp only [addr_add] <;> rw [hb.cell] <;> rfl
theorem same_refl {x : VT} (h : Good x) : sameV x x = true := by
  refine (ord_same _ x x (Nat.lt_succ_self _) h h).1 ?_
  have := ord_anti _ x x (Nat.lt_succ_self _)
  omega
theorem good_flat1 (i : Int) : Good (.mk 1 i (bytesL []) []) := by
  rw [Good_def]
  exact ⟨by show (0 : Int) ≤ 1; decide, by show (1 : Int) ≤ 3; decide, fun h => absurd rfl h, fun _ => bytesL_nil, fun _ => rfl, by show (bytesL []).size ≤ 24; decide, by show ([] : List VT).length ≤ 6; decide, trivial⟩
theorem good_none : Good noneV := by
  rw [Good_def]
  exact ⟨by decide, by decide, fun _ => rfl, fun _ => bytesL_nil, fun _ => rfl, by decide, by decide, trivial⟩
theorem AtB.of_blk {w : World} {b : Nat} {bs : List UInt8} {t : TypeId} (h : Blk w b (bs.map fun u => Value.int .u8 (u.toNat : Int)) t) : AtB w (some ⟨b, 0, none⟩) bs.length bs := ⟨rfl, fun _ => ⟨_, rfl, fun j u hu => by
  rw [addr_add, Nat.zero_add, h.cell]
  simp [hu]⟩⟩
/-! the tree of function 4 -/
abbrev fx4_13 (qa1 : Option Addr) (qn1 : Nat) (qc1 : Nat) (qs2 : ByteArray) (n1 : Nat) (r8 : (Int × Int × ByteArray × (Option Addr × Nat × Nat) × Unit) × Int × Int × Unit) (n9 : Nat) (r11 : (Int × Int × ByteArray × (Option Addr × Nat × Nat) × Unit) × Int × Int × Unit) (n12 : Nat) : List (Tmp × Value) := [(1, .slice qa1 qn1 qc1), (2, .string qs2), (3, .pointer (some ⟨n1, 0, none⟩)), (7, .pointer (some ⟨n9, 0, none⟩)), (8, .int .i64 r8.2.1), (9, .int .i64 r8.2.2.1), (10, .pointer (some ⟨n12, 0, none⟩)), (11, .int .i64 r11.2.1), (12, .int .i64 r11.2.2.1)]
abbrev mx4_13 : List (Tmp × Comp) := [(64, .leaf .bool)]
def s4_13 : Script := .sym (.lit (.lit (.lit (.lit (.lit (.lit (.lit (.lit (.lit (.lit (.lit (.lit (.lit (.lit (.lit (.lit (.lit (.lit .nil)))))))))))))))))) (.lit (.lit (.sym (.lit (.lit (.lit (.lit (.lit (.lit (.lit (.lit (.lit (.lit (.lit (.lit (.lit (.lit (.lit .nil))))))))))))))) (.ld (.int .i64) (.ld (.int .i64) (.ld .str (.ld .sl (.lit (.lit (.cl (.one (.leaf .bool)) (.lit (.lit (.sym (.lit (.lit (.lit (.lit (.lit (.lit (.lit (.lit (.lit (.lit .nil)))))))))) (.lit (.lit (.sym (.lit (.lit (.lit (.lit (.lit (.lit (.lit .nil))))))) (.lit (.lit (.sym (.lit (.lit (.lit (.lit .nil)))) (.ld (.int .i64) (.ld (.int .i64) (.ld .str (.ld .sl (.lit (.lit (.cl (.one (.leaf .bool)) (.lit (.lit .nil))))))))))))))))))))))))))))
theorem t4_13 (qa1 : Option Addr) (qn1 : Nat) (qc1 : Nat) (qs2 : ByteArray) (n1 : Nat) (r8 : (Int × Int × ByteArray × (Option Addr × Nat × Nat) × Unit) × Int × Int × Unit) (n9 : Nat) (r11 : (Int × Int × ByteArray × (Option Addr × Nat × Nat) × Unit) × Int × Int × Unit) (n12 : Nat) (g : Nat → Value) : pieceT Tryd.prog (at_ Tryd.f4 [1, 1, 1, 1, 0, 0]) 165 (fx4_13 qa1 qn1 qc1 qs2 n1 r8 n9 r11 n12) g (mx4_13.map (·.1)) [] [] s4_13 =
  .br (r8.snd.snd.fst != 0)
    (.fin .normal [(64, .bool true)])
    (.br (r8.snd.fst != 1)
      (.fin .normal [(64, .bool true)])
      (.load ⟨n9, 0, none⟩ (.int .i64) (fun x14 =>
        .load ⟨n9, 1, none⟩ (.int .i64) (fun x15 =>
          .load ⟨n9, 2, none⟩ .str (fun s16 =>
            .load ⟨n9, 3, none⟩ .sl (fun l17 =>
              .call 12 #[.agg #[.int .i64 x14, .int .i64 x15, .string s16, .slice l17.1 l17.2.1 l17.2.2], .agg #[.int .i64 1, .int .i64 7, .string (bytesL []), .slice none 0 0]] (.one (.leaf .bool)) (fun b18 =>
                .br (!b18)
                  (.fin .normal [(64, .bool true)])
                  (.br (r11.snd.snd.fst != 0)
                    (.fin .normal [(64, .bool true)])
                    (.br (r11.snd.fst != 2)
                      (.fin .normal [(64, .bool true)])
                      (.load ⟨n12, 0, none⟩ (.int .i64) (fun x19 =>
                        .load ⟨n12, 1, none⟩ (.int .i64) (fun x20 =>
                          .load ⟨n12, 2, none⟩ .str (fun s21 =>
                            .load ⟨n12, 3, none⟩ .sl (fun l22 =>
                              .call 12 #[.agg #[.int .i64 x19, .int .i64 x20, .string s21, .slice l22.1 l22.2.1 l22.2.2], .agg #[.int .i64 1, .int .i64 1, .string (bytesL []), .slice none 0 0]] (.one (.leaf .bool)) (fun b23 =>
                                .fin .normal [(64, .bool (!b23))]))))))))))))))) := by kernel_rfl
abbrev fx4_27 (qa1 : Option Addr) (qn1 : Nat) (qc1 : Nat) (qs2 : ByteArray) (n1 : Nat) (r25 : (Int × Int × ByteArray × (Option Addr × Nat × Nat) × Unit) × Int × Int × Unit) (n26 : Nat) : List (Tmp × Value) := [(1, .slice qa1 qn1 qc1), (2, .string qs2), (3, .pointer (some ⟨n1, 0, none⟩)), (13, .pointer (some ⟨n26, 0, none⟩)), (14, .int .i64 r25.2.1)]
abbrev mx4_27 : List (Tmp × Comp) := [(95, .leaf .bool)]
def s4_27 : Script := .hd0 (.hq 0 (.hq 1 (.hq 2 (.hq 3 (.sym (.hq 4 (.lit (.hq 5 (.lit (.hq 6 (.lit (.hq 7 (.lit (.hq 8 (.hq 9 (.lit (.he 10 (.lit (.hq 11 (.lit (.hq 12 (.lit (.hq 13 (.hq 14 (.lit (.hq 17 (.lit (.hq 18 (.lit (.hq 19 (.lit (.hq 20 (.lit (.he 15 (.lit (.hq 16 (.lit (.hq 21 (.lit (.hq 22 (.lit .nil)))))))))))))))))))))))))))))))))))) (.hq 4 (.lit (.hq 5 (.lit (.hq 6 (.lit (.hq 7 (.lit (.hq 8 (.hq 9 (.sym (.he 10 (.lit (.hq 11 (.lit (.hq 12 (.lit (.hq 13 (.hq 14 (.lit (.hq 17 (.lit (.hq 18 (.lit (.hq 19 (.lit (.hq 20 (.lit (.he 15 (.lit (.hq 16 (.lit (.hq 21 (.lit (.hq 22 (.lit .nil))))))))))))))))))))))))) (.ld (.int .i64) (.ld (.int .i64) (.ld .str (.ld .sl (.he 10 (.lit (.cl (.one (.leaf (.int .i64))) (.hq 11 (.lit (.hq 12 (.lit (.hq 13 (.hq 14 (.sym (.hq 17 (.lit (.hq 18 (.lit (.hq 19 (.lit (.hq 20 (.lit (.he 15 (.lit (.hq 16 (.lit (.hq 21 (.lit (.hq 22 (.lit .nil)))))))))))))))) (.ld (.int .i64) (.ld (.int .i64) (.ld .str (.ld .sl (.hq 17 (.lit (.hq 18 (.lit (.hq 19 (.lit (.nd (.hl 15 (.lit (.cl (.one (.leaf .sl)) (.hl 16 (.lit (.rn (.one (.leaf .str)) (.he 20 (.lit (.rn (.one (.leaf .str)) (.hq 21 (.lit (.hq 22 (.lit .nil))))))))) (.hl 20 (.lit (.rn (.one (.leaf .str)) (.he 16 (.lit (.rn (.one (.leaf .str)) (.hq 21 (.lit (.hq 22 (.lit .nil))))))))) .nil)))) (.hl 20 (.lit (.rn (.one (.leaf .str)) (.he 15 (.lit (.cl (.one (.leaf .sl)) (.he 16 (.lit (.rn (.one (.leaf .str)) (.hq 21 (.lit (.hq 22 (.lit .nil)))))))))))) .nil)))))))))))))))))))))))))))))))))))))))))))
theorem t4_27 (qa1 : Option Addr) (qn1 : Nat) (qc1 : Nat) (qs2 : ByteArray) (n1 : Nat) (r25 : (Int × Int × ByteArray × (Option Addr × Nat × Nat) × Unit) × Int × Int × Unit) (n26 : Nat) (g : Nat → Value) : pieceT Tryd.prog (at_ Tryd.f4 [1, 1, 1, 1, 1, 1, 0, 1, 0, 0]) 165 (fx4_27 qa1 qn1 qc1 qs2 n1 r25 n26) g (mx4_27.map (·.1)) [] [] s4_27 =
  .hdrawn
    (.br (Decidable.decide (r25.snd.fst < 1))
      (.eff
        (.back
          (.eff
            (.back
              (.undrawn
                (.fin .normal [(95, .bool true)]))))))
      (.br (Decidable.decide (r25.snd.fst > (↑qn1 : Int)))
        (.eff
          (.back
            (.eff
              (.back
                (.undrawn
                  (.fin .normal [(95, .bool true)]))))))
        (.load ⟨n26, 0, none⟩ (.int .i64) (fun x28 =>
          .load ⟨n26, 1, none⟩ (.int .i64) (fun x29 =>
            .load ⟨n26, 2, none⟩ .str (fun s30 =>
              .load ⟨n26, 3, none⟩ .sl (fun l31 =>
                .eff
                  (.call 13 #[.agg #[.int .i64 x28, .int .i64 x29, .string s30, .slice l31.1 l31.2.1 l31.2.2]] (.one (.leaf (.int .i64))) (fun x32 =>
                    .back
                      (.br (x32 != 0)
                        (.eff
                          (.back
                            (.undrawn
                              (.fin .normal [(95, .bool true)]))))
                        (.load ⟨n26, 0, none⟩ (.int .i64) (fun x33 =>
                          .load ⟨n26, 1, none⟩ (.int .i64) (fun x34 =>
                            .load ⟨n26, 2, none⟩ .str (fun s35 =>
                              .load ⟨n26, 3, none⟩ .sl (fun l36 =>
                                .need (Decidable.decide (Int.ofNat 0 ≤ 0 ∧ 0 ≤ r25.snd.fst ∧ r25.snd.fst ≤ (↑qc1 : Int)))
                                  (.both
                                    (.eff
                                      (.call 14 #[.agg #[.int .i64 x33, .int .i64 x34, .string s35, .slice l36.1 l36.2.1 l36.2.2]] (.one (.leaf .sl)) (fun l37 =>
                                        .back
                                          (.both
                                            (.eff
                                              (.run (vNext (convert 29 9 (.slice l37.1 l37.2.1 l37.2.2))) (.one (.leaf .str)) (fun s38 =>
                                                .back
                                                  (.eff
                                                    (.run (vNext (convert 29 9 (.slice (if qc1 = 0 then qa1 else Option.map (fun q ↦ q.add (0 * 1)) qa1) (r25.snd.fst.toNat - 0) (qc1 - 0)))) (.one (.leaf .str)) (fun s39 =>
                                                      .back
                                                        (.undrawn
                                                          (.fin .normal [(95, .bool (!s38.toList == s39.toList))]))))))))
                                            (.both
                                              (.eff
                                                (.run (vNext (convert 29 9 (.slice (if qc1 = 0 then qa1 else Option.map (fun q ↦ q.add (0 * 1)) qa1) (r25.snd.fst.toNat - 0) (qc1 - 0)))) (.one (.leaf .str)) (fun s40 =>
                                                  .back
                                                    (.eff
                                                      (.run (vNext (convert 29 9 (.slice l37.1 l37.2.1 l37.2.2))) (.one (.leaf .str)) (fun s41 =>
                                                        .back
                                                          (.undrawn
                                                            (.fin .normal [(95, .bool (!s41.toList == s40.toList))]))))))))
                                              (.triv))))))
                                    (.both
                                      (.eff
                                        (.run (vNext (convert 29 9 (.slice (if qc1 = 0 then qa1 else Option.map (fun q ↦ q.add (0 * 1)) qa1) (r25.snd.fst.toNat - 0) (qc1 - 0)))) (.one (.leaf .str)) (fun s42 =>
                                          .back
                                            (.eff
                                              (.call 14 #[.agg #[.int .i64 x33, .int .i64 x34, .string s35, .slice l36.1 l36.2.1 l36.2.2]] (.one (.leaf .sl)) (fun l43 =>
                                                .back
                                                  (.eff
                                                    (.run (vNext (convert 29 9 (.slice l43.1 l43.2.1 l43.2.2))) (.one (.leaf .str)) (fun s44 =>
                                                      .back
                                                        (.undrawn
                                                          (.fin .normal [(95, .bool (!s44.toList == s42.toList))])))))))))))
                                      (.triv)))))))))))))))))) := by kernel_rfl
abbrev fx4_48 (qs2 : ByteArray) (n1 : Nat) (r46 : (Int × Int × ByteArray × (Option Addr × Nat × Nat) × Unit) × Int × Int × Unit) (n47 : Nat) : List (Tmp × Value) := [(2, .string qs2), (3, .pointer (some ⟨n1, 0, none⟩)), (16, .pointer (some ⟨n47, 0, none⟩)), (17, .int .i64 r46.2.1)]
abbrev mx4_48 : List (Tmp × Comp) := [(125, .leaf .bool)]
def s4_48 : Script := .sym (.lit (.lit (.lit (.lit (.lit (.lit (.lit .nil))))))) (.ld (.int .i64) (.ld (.int .i64) (.ld .str (.ld .sl (.lit (.cl (.one (.leaf (.int .i64))) (.lit (.lit (.sym (.lit (.lit (.lit .nil))) (.ld (.int .i64) (.ld (.int .i64) (.ld .str (.ld .sl (.lit (.cl (.one (.leaf (.int .i64))) (.lit (.lit .nil)))))))))))))))))
theorem t4_48 (qs2 : ByteArray) (n1 : Nat) (r46 : (Int × Int × ByteArray × (Option Addr × Nat × Nat) × Unit) × Int × Int × Unit) (n47 : Nat) (g : Nat → Value) : pieceT Tryd.prog (at_ Tryd.f4 [1, 1, 1, 1, 1, 1, 1, 1, 0, 1, 0, 0]) 165 (fx4_48 qs2 n1 r46 n47) g (mx4_48.map (·.1)) [] [] s4_48 =
  .br (r46.snd.fst != (↑qs2.size : Int))
    (.fin .normal [(125, .bool true)])
    (.load ⟨n47, 0, none⟩ (.int .i64) (fun x49 =>
      .load ⟨n47, 1, none⟩ (.int .i64) (fun x50 =>
        .load ⟨n47, 2, none⟩ .str (fun s51 =>
          .load ⟨n47, 3, none⟩ .sl (fun l52 =>
            .call 13 #[.agg #[.int .i64 x49, .int .i64 x50, .string s51, .slice l52.1 l52.2.1 l52.2.2]] (.one (.leaf (.int .i64))) (fun x53 =>
              .br (x53 != 0)
                (.fin .normal [(125, .bool true)])
                (.load ⟨n47, 0, none⟩ (.int .i64) (fun x54 =>
                  .load ⟨n47, 1, none⟩ (.int .i64) (fun x55 =>
                    .load ⟨n47, 2, none⟩ .str (fun s56 =>
                      .load ⟨n47, 3, none⟩ .sl (fun l57 =>
                        .call 16 #[.agg #[.int .i64 x54, .int .i64 x55, .string s56, .slice l57.1 l57.2.1 l57.2.2], .int .i64 0] (.one (.leaf (.int .i64))) (fun x58 =>
                          .fin .normal [(125, .bool (Decidable.decide (x58 > 12)))])))))))))))) := by kernel_rfl
abbrev fx4_65 (l64 : Option Addr × Nat × Nat) : List (Tmp × Value) := [(19, .slice l64.1 l64.2.1 l64.2.2)]
abbrev m4_65 : List (Tmp × Comp) := [(20, .leaf (.int .i64))]
abbrev mx4_65 : List (Tmp × Comp) := []
abbrev mr4_65 : List (Tmp × Comp) := [(6, .leaf .bool)]
def s4_65 : Script := .sym (.nd (.clp (.tup [.agg [.int .i64, .int .i64, .str, .sl], .leaf (.int .i64), .leaf (.int .i64)]) (.sym (.lit (.lit (.lit .nil))) (.lit (.lit (.sym .nil .nil)))) .nil)) .nil
theorem t4_65 (l64 : Option Addr × Nat × Nat) (x_20 : Int) (g : Nat → Value) : pieceT Tryd.prog (at_ Tryd.f4 [1, 1, 1, 1, 1, 1, 1, 1, 1, 1, 0, 1, 0, 0]) 165 (fx4_65 l64 ++ mvals m4_65 (x_20, ())) g (m4_65.map (·.1)) (mx4_65.map (·.1)) (mr4_65.map (·.1)) s4_65 =
  .br (Decidable.decide (x_20 < (↑l64.snd.fst : Int)))
    (.need (Decidable.decide (Int.ofNat 0 ≤ 0 ∧ 0 ≤ x_20 ∧ x_20 ≤ (↑l64.snd.snd : Int)))
      (.callp 11 #[.slice (if l64.snd.snd = 0 then l64.fst else Option.map (fun q ↦ q.add (0 * 1)) l64.fst) (x_20.toNat - 0) (l64.snd.snd - 0)] (.tup [.agg [.int .i64, .int .i64, .str, .sl], .leaf (.int .i64), .leaf (.int .i64)]) (fun r66 =>
        .new (.cells #[.int .i64 0, .int .i64 0, .string (bytesL []), .slice none 0 0] 24 (0, 0)) (fun n67 =>
          .store ⟨n67, 0, none⟩ (.int .i64 r66.1.1)
            (.store ⟨n67, 1, none⟩ (.int .i64 r66.1.2.1)
              (.store ⟨n67, 2, none⟩ (.string r66.1.2.2.1)
                (.store ⟨n67, 3, none⟩ (.slice r66.1.2.2.2.1.1 r66.1.2.2.2.1.2.1 r66.1.2.2.2.1.2.2)
                  (.br (r66.snd.fst != 0)
                    (.fin .ret [(6, .bool false)])
                    (.br (r66.snd.snd.fst != 28)
                      (.fin .ret [(6, .bool false)])
                      (.fin .normal [(20, .int .i64 (IntKind.i64.wrap (x_20 + 1)))])))))))) (fun ch68 =>
        .done (.panicked ch68))))
    (.fin (.exit 0) []) := by kernel_rfl
abbrev fx4_71 (qs2 : ByteArray) (n1 : Nat) (r46 : (Int × Int × ByteArray × (Option Addr × Nat × Nat) × Unit) × Int × Int × Unit) (n47 : Nat) : List (Tmp × Value) := [(2, .string qs2), (3, .pointer (some ⟨n1, 0, none⟩)), (16, .pointer (some ⟨n47, 0, none⟩)), (17, .int .i64 r46.2.1), (18, .int .i64 r46.2.2.1)]
abbrev mx4_71 : List (Tmp × Comp) := [(139, .leaf .bool)]
def s4_71 : Script := .sym (.lit (.lit (.lit (.lit (.lit (.lit (.lit (.lit (.lit .nil))))))))) (.lit (.lit (.lit (.lit (.sym (.lit (.lit (.lit (.lit .nil)))) (.ld (.int .i64) (.ld (.int .i64) (.ld .str (.ld .sl (.lit (.lit (.cl (.one (.leaf .bool)) (.lit (.lit .nil))))))))))))))
theorem t4_71 (qs2 : ByteArray) (n1 : Nat) (r46 : (Int × Int × ByteArray × (Option Addr × Nat × Nat) × Unit) × Int × Int × Unit) (n47 : Nat) (g : Nat → Value) : pieceT Tryd.prog (at_ Tryd.f4 [1, 1, 1, 1, 1, 1, 1, 1, 0, 1, 1, 0]) 165 (fx4_71 qs2 n1 r46 n47) g (mx4_71.map (·.1)) [] [] s4_71 =
  .br (Decidable.decide (r46.snd.fst < 0))
    (.fin .normal [(139, .bool true)])
    (.br (Decidable.decide (r46.snd.fst > (↑qs2.size : Int)))
      (.fin .normal [(139, .bool true)])
      (.load ⟨n47, 0, none⟩ (.int .i64) (fun x72 =>
        .load ⟨n47, 1, none⟩ (.int .i64) (fun x73 =>
          .load ⟨n47, 2, none⟩ .str (fun s74 =>
            .load ⟨n47, 3, none⟩ .sl (fun l75 =>
              .call 15 #[.agg #[.int .i64 x72, .int .i64 x73, .string s74, .slice l75.1 l75.2.1 l75.2.2], .int .i64 r46.2.2.1] (.one (.leaf .bool)) (fun b76 =>
                .fin .normal [(139, .bool (!b76))]))))))) := by kernel_rfl
abbrev fx4_83 (l82 : Option Addr × Nat × Nat) : List (Tmp × Value) := [(19, .slice l82.1 l82.2.1 l82.2.2)]
abbrev m4_83 : List (Tmp × Comp) := [(20, .leaf (.int .i64))]
abbrev mx4_83 : List (Tmp × Comp) := []
abbrev mr4_83 : List (Tmp × Comp) := [(6, .leaf .bool)]
def s4_83 : Script := .sym (.nd (.clp (.tup [.agg [.int .i64, .int .i64, .str, .sl], .leaf (.int .i64), .leaf (.int .i64)]) (.sym (.lit (.lit (.lit .nil))) (.lit (.lit (.sym .nil .nil)))) .nil)) .nil
theorem t4_83 (l82 : Option Addr × Nat × Nat) (x_20 : Int) (g : Nat → Value) : pieceT Tryd.prog (at_ Tryd.f4 [1, 1, 1, 1, 1, 1, 1, 1, 1, 1, 0, 1, 0, 0]) 165 (fx4_83 l82 ++ mvals m4_83 (x_20, ())) g (m4_83.map (·.1)) (mx4_83.map (·.1)) (mr4_83.map (·.1)) s4_83 =
  .br (Decidable.decide (x_20 < (↑l82.snd.fst : Int)))
    (.need (Decidable.decide (Int.ofNat 0 ≤ 0 ∧ 0 ≤ x_20 ∧ x_20 ≤ (↑l82.snd.snd : Int)))
      (.callp 11 #[.slice (if l82.snd.snd = 0 then l82.fst else Option.map (fun q ↦ q.add (0 * 1)) l82.fst) (x_20.toNat - 0) (l82.snd.snd - 0)] (.tup [.agg [.int .i64, .int .i64, .str, .sl], .leaf (.int .i64), .leaf (.int .i64)]) (fun r84 =>
        .new (.cells #[.int .i64 0, .int .i64 0, .string (bytesL []), .slice none 0 0] 24 (0, 0)) (fun n85 =>
          .store ⟨n85, 0, none⟩ (.int .i64 r84.1.1)
            (.store ⟨n85, 1, none⟩ (.int .i64 r84.1.2.1)
              (.store ⟨n85, 2, none⟩ (.string r84.1.2.2.1)
                (.store ⟨n85, 3, none⟩ (.slice r84.1.2.2.2.1.1 r84.1.2.2.2.1.2.1 r84.1.2.2.2.1.2.2)
                  (.br (r84.snd.fst != 0)
                    (.fin .ret [(6, .bool false)])
                    (.br (r84.snd.snd.fst != 28)
                      (.fin .ret [(6, .bool false)])
                      (.fin .normal [(20, .int .i64 (IntKind.i64.wrap (x_20 + 1)))])))))))) (fun ch86 =>
        .done (.panicked ch86))))
    (.fin (.exit 0) []) := by kernel_rfl
abbrev fx4_90 (qs2 : ByteArray) (n1 : Nat) (r25 : (Int × Int × ByteArray × (Option Addr × Nat × Nat) × Unit) × Int × Int × Unit) (n26 : Nat) : List (Tmp × Value) := [(2, .string qs2), (3, .pointer (some ⟨n1, 0, none⟩)), (13, .pointer (some ⟨n26, 0, none⟩)), (14, .int .i64 r25.2.1), (15, .int .i64 r25.2.2.1)]
abbrev mx4_90 : List (Tmp × Comp) := [(103, .leaf .bool)]
def s4_90 : Script := .sym (.lit (.lit (.lit (.lit .nil)))) (.ld (.int .i64) (.ld (.int .i64) (.ld .str (.ld .sl (.lit (.lit (.cl (.one (.leaf .bool)) (.lit (.lit .nil)))))))))
theorem t4_90 (qs2 : ByteArray) (n1 : Nat) (r25 : (Int × Int × ByteArray × (Option Addr × Nat × Nat) × Unit) × Int × Int × Unit) (n26 : Nat) (g : Nat → Value) : pieceT Tryd.prog (at_ Tryd.f4 [1, 1, 1, 1, 1, 1, 0, 1, 1, 0]) 165 (fx4_90 qs2 n1 r25 n26) g (mx4_90.map (·.1)) [] [] s4_90 =
  .br (r25.snd.fst != 0)
    (.fin .normal [(103, .bool true)])
    (.load ⟨n26, 0, none⟩ (.int .i64) (fun x91 =>
      .load ⟨n26, 1, none⟩ (.int .i64) (fun x92 =>
        .load ⟨n26, 2, none⟩ .str (fun s93 =>
          .load ⟨n26, 3, none⟩ .sl (fun l94 =>
            .call 15 #[.agg #[.int .i64 x91, .int .i64 x92, .string s93, .slice l94.1 l94.2.1 l94.2.2], .int .i64 r25.2.2.1] (.one (.leaf .bool)) (fun b95 =>
              .fin .normal [(103, .bool (!b95))])))))) := by kernel_rfl
abbrev fx4_99 (qs2 : ByteArray) (n1 : Nat) (r97 : (Int × Int × ByteArray × (Option Addr × Nat × Nat) × Unit) × Int × Int × Unit) (n98 : Nat) : List (Tmp × Value) := [(2, .string qs2), (3, .pointer (some ⟨n1, 0, none⟩)), (16, .pointer (some ⟨n98, 0, none⟩)), (17, .int .i64 r97.2.1)]
abbrev mx4_99 : List (Tmp × Comp) := [(125, .leaf .bool)]
def s4_99 : Script := .sym (.lit (.lit (.lit (.lit (.lit (.lit (.lit .nil))))))) (.ld (.int .i64) (.ld (.int .i64) (.ld .str (.ld .sl (.lit (.cl (.one (.leaf (.int .i64))) (.lit (.lit (.sym (.lit (.lit (.lit .nil))) (.ld (.int .i64) (.ld (.int .i64) (.ld .str (.ld .sl (.lit (.cl (.one (.leaf (.int .i64))) (.lit (.lit .nil)))))))))))))))))
theorem t4_99 (qs2 : ByteArray) (n1 : Nat) (r97 : (Int × Int × ByteArray × (Option Addr × Nat × Nat) × Unit) × Int × Int × Unit) (n98 : Nat) (g : Nat → Value) : pieceT Tryd.prog (at_ Tryd.f4 [1, 1, 1, 1, 1, 1, 1, 1, 0, 1, 0, 0]) 165 (fx4_99 qs2 n1 r97 n98) g (mx4_99.map (·.1)) [] [] s4_99 =
  .br (r97.snd.fst != (↑qs2.size : Int))
    (.fin .normal [(125, .bool true)])
    (.load ⟨n98, 0, none⟩ (.int .i64) (fun x100 =>
      .load ⟨n98, 1, none⟩ (.int .i64) (fun x101 =>
        .load ⟨n98, 2, none⟩ .str (fun s102 =>
          .load ⟨n98, 3, none⟩ .sl (fun l103 =>
            .call 13 #[.agg #[.int .i64 x100, .int .i64 x101, .string s102, .slice l103.1 l103.2.1 l103.2.2]] (.one (.leaf (.int .i64))) (fun x104 =>
              .br (x104 != 0)
                (.fin .normal [(125, .bool true)])
                (.load ⟨n98, 0, none⟩ (.int .i64) (fun x105 =>
                  .load ⟨n98, 1, none⟩ (.int .i64) (fun x106 =>
                    .load ⟨n98, 2, none⟩ .str (fun s107 =>
                      .load ⟨n98, 3, none⟩ .sl (fun l108 =>
                        .call 16 #[.agg #[.int .i64 x105, .int .i64 x106, .string s107, .slice l108.1 l108.2.1 l108.2.2], .int .i64 0] (.one (.leaf (.int .i64))) (fun x109 =>
                          .fin .normal [(125, .bool (Decidable.decide (x109 > 12)))])))))))))))) := by kernel_rfl
abbrev fx4_116 (l115 : Option Addr × Nat × Nat) : List (Tmp × Value) := [(19, .slice l115.1 l115.2.1 l115.2.2)]
abbrev m4_116 : List (Tmp × Comp) := [(20, .leaf (.int .i64))]
abbrev mx4_116 : List (Tmp × Comp) := []
abbrev mr4_116 : List (Tmp × Comp) := [(6, .leaf .bool)]
def s4_116 : Script := .sym (.nd (.clp (.tup [.agg [.int .i64, .int .i64, .str, .sl], .leaf (.int .i64), .leaf (.int .i64)]) (.sym (.lit (.lit (.lit .nil))) (.lit (.lit (.sym .nil .nil)))) .nil)) .nil
theorem t4_116 (l115 : Option Addr × Nat × Nat) (x_20 : Int) (g : Nat → Value) : pieceT Tryd.prog (at_ Tryd.f4 [1, 1, 1, 1, 1, 1, 1, 1, 1, 1, 0, 1, 0, 0]) 165 (fx4_116 l115 ++ mvals m4_116 (x_20, ())) g (m4_116.map (·.1)) (mx4_116.map (·.1)) (mr4_116.map (·.1)) s4_116 =
  .br (Decidable.decide (x_20 < (↑l115.snd.fst : Int)))
    (.need (Decidable.decide (Int.ofNat 0 ≤ 0 ∧ 0 ≤ x_20 ∧ x_20 ≤ (↑l115.snd.snd : Int)))
      (.callp 11 #[.slice (if l115.snd.snd = 0 then l115.fst else Option.map (fun q ↦ q.add (0 * 1)) l115.fst) (x_20.toNat - 0) (l115.snd.snd - 0)] (.tup [.agg [.int .i64, .int .i64, .str, .sl], .leaf (.int .i64), .leaf (.int .i64)]) (fun r117 =>
        .new (.cells #[.int .i64 0, .int .i64 0, .string (bytesL []), .slice none 0 0] 24 (0, 0)) (fun n118 =>
          .store ⟨n118, 0, none⟩ (.int .i64 r117.1.1)
            (.store ⟨n118, 1, none⟩ (.int .i64 r117.1.2.1)
              (.store ⟨n118, 2, none⟩ (.string r117.1.2.2.1)
                (.store ⟨n118, 3, none⟩ (.slice r117.1.2.2.2.1.1 r117.1.2.2.2.1.2.1 r117.1.2.2.2.1.2.2)
                  (.br (r117.snd.fst != 0)
                    (.fin .ret [(6, .bool false)])
                    (.br (r117.snd.snd.fst != 28)
                      (.fin .ret [(6, .bool false)])
                      (.fin .normal [(20, .int .i64 (IntKind.i64.wrap (x_20 + 1)))])))))))) (fun ch119 =>
        .done (.panicked ch119))))
    (.fin (.exit 0) []) := by kernel_rfl
abbrev fx4_122 (qs2 : ByteArray) (n1 : Nat) (r97 : (Int × Int × ByteArray × (Option Addr × Nat × Nat) × Unit) × Int × Int × Unit) (n98 : Nat) : List (Tmp × Value) := [(2, .string qs2), (3, .pointer (some ⟨n1, 0, none⟩)), (16, .pointer (some ⟨n98, 0, none⟩)), (17, .int .i64 r97.2.1), (18, .int .i64 r97.2.2.1)]
abbrev mx4_122 : List (Tmp × Comp) := [(139, .leaf .bool)]
def s4_122 : Script := .sym (.lit (.lit (.lit (.lit (.lit (.lit (.lit (.lit (.lit .nil))))))))) (.lit (.lit (.lit (.lit (.sym (.lit (.lit (.lit (.lit .nil)))) (.ld (.int .i64) (.ld (.int .i64) (.ld .str (.ld .sl (.lit (.lit (.cl (.one (.leaf .bool)) (.lit (.lit .nil))))))))))))))
theorem t4_122 (qs2 : ByteArray) (n1 : Nat) (r97 : (Int × Int × ByteArray × (Option Addr × Nat × Nat) × Unit) × Int × Int × Unit) (n98 : Nat) (g : Nat → Value) : pieceT Tryd.prog (at_ Tryd.f4 [1, 1, 1, 1, 1, 1, 1, 1, 0, 1, 1, 0]) 165 (fx4_122 qs2 n1 r97 n98) g (mx4_122.map (·.1)) [] [] s4_122 =
  .br (Decidable.decide (r97.snd.fst < 0))
    (.fin .normal [(139, .bool true)])
    (.br (Decidable.decide (r97.snd.fst > (↑qs2.size : Int)))
      (.fin .normal [(139, .bool true)])
      (.load ⟨n98, 0, none⟩ (.int .i64) (fun x123 =>
        .load ⟨n98, 1, none⟩ (.int .i64) (fun x124 =>
          .load ⟨n98, 2, none⟩ .str (fun s125 =>
            .load ⟨n98, 3, none⟩ .sl (fun l126 =>
              .call 15 #[.agg #[.int .i64 x123, .int .i64 x124, .string s125, .slice l126.1 l126.2.1 l126.2.2], .int .i64 r97.2.2.1] (.one (.leaf .bool)) (fun b127 =>
                .fin .normal [(139, .bool (!b127))]))))))) := by kernel_rfl
abbrev fx4_134 (l133 : Option Addr × Nat × Nat) : List (Tmp × Value) := [(19, .slice l133.1 l133.2.1 l133.2.2)]
abbrev m4_134 : List (Tmp × Comp) := [(20, .leaf (.int .i64))]
abbrev mx4_134 : List (Tmp × Comp) := []
abbrev mr4_134 : List (Tmp × Comp) := [(6, .leaf .bool)]
def s4_134 : Script := .sym (.nd (.clp (.tup [.agg [.int .i64, .int .i64, .str, .sl], .leaf (.int .i64), .leaf (.int .i64)]) (.sym (.lit (.lit (.lit .nil))) (.lit (.lit (.sym .nil .nil)))) .nil)) .nil
theorem t4_134 (l133 : Option Addr × Nat × Nat) (x_20 : Int) (g : Nat → Value) : pieceT Tryd.prog (at_ Tryd.f4 [1, 1, 1, 1, 1, 1, 1, 1, 1, 1, 0, 1, 0, 0]) 165 (fx4_134 l133 ++ mvals m4_134 (x_20, ())) g (m4_134.map (·.1)) (mx4_134.map (·.1)) (mr4_134.map (·.1)) s4_134 =
  .br (Decidable.decide (x_20 < (↑l133.snd.fst : Int)))
    (.need (Decidable.decide (Int.ofNat 0 ≤ 0 ∧ 0 ≤ x_20 ∧ x_20 ≤ (↑l133.snd.snd : Int)))
      (.callp 11 #[.slice (if l133.snd.snd = 0 then l133.fst else Option.map (fun q ↦ q.add (0 * 1)) l133.fst) (x_20.toNat - 0) (l133.snd.snd - 0)] (.tup [.agg [.int .i64, .int .i64, .str, .sl], .leaf (.int .i64), .leaf (.int .i64)]) (fun r135 =>
        .new (.cells #[.int .i64 0, .int .i64 0, .string (bytesL []), .slice none 0 0] 24 (0, 0)) (fun n136 =>
          .store ⟨n136, 0, none⟩ (.int .i64 r135.1.1)
            (.store ⟨n136, 1, none⟩ (.int .i64 r135.1.2.1)
              (.store ⟨n136, 2, none⟩ (.string r135.1.2.2.1)
                (.store ⟨n136, 3, none⟩ (.slice r135.1.2.2.2.1.1 r135.1.2.2.2.1.2.1 r135.1.2.2.2.1.2.2)
                  (.br (r135.snd.fst != 0)
                    (.fin .ret [(6, .bool false)])
                    (.br (r135.snd.snd.fst != 28)
                      (.fin .ret [(6, .bool false)])
                      (.fin .normal [(20, .int .i64 (IntKind.i64.wrap (x_20 + 1)))])))))))) (fun ch137 =>
        .done (.panicked ch137))))
    (.fin (.exit 0) []) := by kernel_rfl
def s4 : Script := .ld (.int .i64) (.ld (.int .i64) (.ld .str (.ld .sl (.cl (.one (.leaf .bool)) (.sym .nil (.clp (.tup [.agg [.int .i64, .int .i64, .str, .sl], .leaf (.int .i64), .leaf (.int .i64)]) (.clp (.tup [.agg [.int .i64, .int .i64, .str, .sl], .leaf (.int .i64), .leaf (.int .i64)]) (.ct 1 [1, 2, 3, 7, 8, 9, 10, 11, 12] mx4_13 (.sym .nil (.clp (.tup [.agg [.int .i64, .int .i64, .str, .sl], .leaf (.int .i64), .leaf (.int .i64)]) (.sym (.ct 0 [1, 2, 3, 13, 14] mx4_27 (.sym .nil (.clp (.tup [.agg [.int .i64, .int .i64, .str, .sl], .leaf (.int .i64), .leaf (.int .i64)]) (.sym (.ct 0 [2, 3, 16, 17] mx4_48 (.sym .nil (.ld (.int .i64) (.ld (.int .i64) (.ld .str (.ld .sl (.cl (.one (.leaf .sl)) (.lp 0 [19] [20] mx4_65 mr4_65 .nil .nil)))))))) (.ct 0 [2, 3, 16, 17, 18] mx4_71 (.sym .nil (.ld (.int .i64) (.ld (.int .i64) (.ld .str (.ld .sl (.cl (.one (.leaf .sl)) (.lp 0 [19] [20] mx4_83 mr4_83 .nil .nil))))))))) .nil))) (.ct 0 [2, 3, 13, 14, 15] mx4_90 (.sym .nil (.clp (.tup [.agg [.int .i64, .int .i64, .str, .sl], .leaf (.int .i64), .leaf (.int .i64)]) (.sym (.ct 0 [2, 3, 16, 17] mx4_99 (.sym .nil (.ld (.int .i64) (.ld (.int .i64) (.ld .str (.ld .sl (.cl (.one (.leaf .sl)) (.lp 0 [19] [20] mx4_116 mr4_116 .nil .nil)))))))) (.ct 0 [2, 3, 16, 17, 18] mx4_122 (.sym .nil (.ld (.int .i64) (.ld (.int .i64) (.ld .str (.ld .sl (.cl (.one (.leaf .sl)) (.lp 0 [19] [20] mx4_134 mr4_134 .nil .nil))))))))) .nil)))) .nil))) .nil) .nil))))))
theorem t4 (qx0_0 : Int) (qx0_1 : Int) (qs0_2 : ByteArray) (qa0_3 : Option Addr) (qn0_3 : Nat) (qc0_3 : Nat) (qa1 : Option Addr) (qn1 : Nat) (qc1 : Nat) (qs2 : ByteArray) : fnT Tryd.prog Tryd.f4 #[.agg #[.int .i64 qx0_0, .int .i64 qx0_1, .string qs0_2, .slice qa0_3 qn0_3 qc0_3], .slice qa1 qn1 qc1, .string qs2] s4 =
  .new (.cells #[.int .i64 qx0_0, .int .i64 qx0_1, .string qs0_2, .slice qa0_3 qn0_3 qc0_3] 24 (0, 0)) (fun n1 =>
    .load ⟨n1, 0, none⟩ (.int .i64) (fun x2 =>
      .load ⟨n1, 1, none⟩ (.int .i64) (fun x3 =>
        .load ⟨n1, 2, none⟩ .str (fun s4 =>
          .load ⟨n1, 3, none⟩ .sl (fun l5 =>
            .new (.cells #[.int .i64 x2, .int .i64 x3, .string s4, .slice l5.1 l5.2.1 l5.2.2] 24 (0, 0)) (fun n6 =>
              .call 7 #[.slice (some ⟨n6, 0, none⟩) 1 1] (.one (.leaf .bool)) (fun b7 =>
                .br (!b7)
                  (.done (.returned (.bool true)))
                  (.callp 10 #[.string (bytesL [55])] (.tup [.agg [.int .i64, .int .i64, .str, .sl], .leaf (.int .i64), .leaf (.int .i64)]) (fun r8 =>
                    .new (.cells #[.int .i64 0, .int .i64 0, .string (bytesL []), .slice none 0 0] 24 (0, 0)) (fun n9 =>
                      .store ⟨n9, 0, none⟩ (.int .i64 r8.1.1)
                        (.store ⟨n9, 1, none⟩ (.int .i64 r8.1.2.1)
                          (.store ⟨n9, 2, none⟩ (.string r8.1.2.2.1)
                            (.store ⟨n9, 3, none⟩ (.slice r8.1.2.2.2.1.1 r8.1.2.2.2.1.2.1 r8.1.2.2.2.1.2.2)
                              (.new (.cells #[.int .u8 1, .int .u8 2] 5 (0, 0)) (fun n10 =>
                                .callp 11 #[.slice (some ⟨n10, 0, none⟩) 2 2] (.tup [.agg [.int .i64, .int .i64, .str, .sl], .leaf (.int .i64), .leaf (.int .i64)]) (fun r11 =>
                                  .new (.cells #[.int .i64 0, .int .i64 0, .string (bytesL []), .slice none 0 0] 24 (0, 0)) (fun n12 =>
                                    .store ⟨n12, 0, none⟩ (.int .i64 r11.1.1)
                                      (.store ⟨n12, 1, none⟩ (.int .i64 r11.1.2.1)
                                        (.store ⟨n12, 2, none⟩ (.string r11.1.2.2.1)
                                          (.store ⟨n12, 3, none⟩ (.slice r11.1.2.2.2.1.1 r11.1.2.2.2.1.2.1 r11.1.2.2.2.1.2.2)
                                            (.cut (at_ Tryd.f4 [1, 1, 1, 1, 0, 0]) 165 (fx4_13 qa1 qn1 qc1 qs2 n1 r8 n9 r11 n12) mx4_13 (fun u24 g24 =>
                                              .br u24.1
                                                (.done (.returned (.bool false)))
                                                (.callp 11 #[.slice qa1 qn1 qc1] (.tup [.agg [.int .i64, .int .i64, .str, .sl], .leaf (.int .i64), .leaf (.int .i64)]) (fun r25 =>
                                                  .new (.cells #[.int .i64 0, .int .i64 0, .string (bytesL []), .slice none 0 0] 24 (0, 0)) (fun n26 =>
                                                    .store ⟨n26, 0, none⟩ (.int .i64 r25.1.1)
                                                      (.store ⟨n26, 1, none⟩ (.int .i64 r25.1.2.1)
                                                        (.store ⟨n26, 2, none⟩ (.string r25.1.2.2.1)
                                                          (.store ⟨n26, 3, none⟩ (.slice r25.1.2.2.2.1.1 r25.1.2.2.2.1.2.1 r25.1.2.2.2.1.2.2)
                                                            (.br (r25.snd.snd.fst == 0)
                                                              (.cut (at_ Tryd.f4 [1, 1, 1, 1, 1, 1, 0, 1, 0, 0]) 165 (fx4_27 qa1 qn1 qc1 qs2 n1 r25 n26) mx4_27 (fun u45 g45 =>
                                                                .br u45.1
                                                                  (.done (.returned (.bool false)))
                                                                  (.callp 10 #[.string qs2] (.tup [.agg [.int .i64, .int .i64, .str, .sl], .leaf (.int .i64), .leaf (.int .i64)]) (fun r46 =>
                                                                    .new (.cells #[.int .i64 0, .int .i64 0, .string (bytesL []), .slice none 0 0] 24 (0, 0)) (fun n47 =>
                                                                      .store ⟨n47, 0, none⟩ (.int .i64 r46.1.1)
                                                                        (.store ⟨n47, 1, none⟩ (.int .i64 r46.1.2.1)
                                                                          (.store ⟨n47, 2, none⟩ (.string r46.1.2.2.1)
                                                                            (.store ⟨n47, 3, none⟩ (.slice r46.1.2.2.2.1.1 r46.1.2.2.2.1.2.1 r46.1.2.2.2.1.2.2)
                                                                              (.br (r46.snd.snd.fst == 0)
                                                                                (.cut (at_ Tryd.f4 [1, 1, 1, 1, 1, 1, 1, 1, 0, 1, 0, 0]) 165 (fx4_48 qs2 n1 r46 n47) mx4_48 (fun u59 g59 =>
                                                                                  .br u59.1
                                                                                    (.done (.returned (.bool false)))
                                                                                    (.load ⟨n1, 0, none⟩ (.int .i64) (fun x60 =>
                                                                                      .load ⟨n1, 1, none⟩ (.int .i64) (fun x61 =>
                                                                                        .load ⟨n1, 2, none⟩ .str (fun s62 =>
                                                                                          .load ⟨n1, 3, none⟩ .sl (fun l63 =>
                                                                                            .call 14 #[.agg #[.int .i64 x60, .int .i64 x61, .string s62, .slice l63.1 l63.2.1 l63.2.2]] (.one (.leaf .sl)) (fun l64 =>
                                                                                              .loop (at_ Tryd.f4 [1, 1, 1, 1, 1, 1, 1, 1, 1, 1, 0, 1, 0, 0]) 165 (fx4_65 l64) [(20, .int .i64 0)] mx4_65 mr4_65 0 (fun u69 g69 =>
                                                                                                .done (.returned (.bool (Decidable.decide ((↑l64.snd.fst : Int) > 0))))) (fun u70 g70 =>
                                                                                                .done (.returned (.bool u70.1)))))))))))
                                                                                (.cut (at_ Tryd.f4 [1, 1, 1, 1, 1, 1, 1, 1, 0, 1, 1, 0]) 165 (fx4_71 qs2 n1 r46 n47) mx4_71 (fun u77 g77 =>
                                                                                  .br u77.1
                                                                                    (.done (.returned (.bool false)))
                                                                                    (.load ⟨n1, 0, none⟩ (.int .i64) (fun x78 =>
                                                                                      .load ⟨n1, 1, none⟩ (.int .i64) (fun x79 =>
                                                                                        .load ⟨n1, 2, none⟩ .str (fun s80 =>
                                                                                          .load ⟨n1, 3, none⟩ .sl (fun l81 =>
                                                                                            .call 14 #[.agg #[.int .i64 x78, .int .i64 x79, .string s80, .slice l81.1 l81.2.1 l81.2.2]] (.one (.leaf .sl)) (fun l82 =>
                                                                                              .loop (at_ Tryd.f4 [1, 1, 1, 1, 1, 1, 1, 1, 1, 1, 0, 1, 0, 0]) 165 (fx4_83 l82) [(20, .int .i64 0)] mx4_83 mr4_83 0 (fun u87 g87 =>
                                                                                                .done (.returned (.bool (Decidable.decide ((↑l82.snd.fst : Int) > 0))))) (fun u88 g88 =>
                                                                                                .done (.returned (.bool u88.1))))))))))))))))) (fun ch89 =>
                                                                    .done (.panicked ch89)))))
                                                              (.cut (at_ Tryd.f4 [1, 1, 1, 1, 1, 1, 0, 1, 1, 0]) 165 (fx4_90 qs2 n1 r25 n26) mx4_90 (fun u96 g96 =>
                                                                .br u96.1
                                                                  (.done (.returned (.bool false)))
                                                                  (.callp 10 #[.string qs2] (.tup [.agg [.int .i64, .int .i64, .str, .sl], .leaf (.int .i64), .leaf (.int .i64)]) (fun r97 =>
                                                                    .new (.cells #[.int .i64 0, .int .i64 0, .string (bytesL []), .slice none 0 0] 24 (0, 0)) (fun n98 =>
                                                                      .store ⟨n98, 0, none⟩ (.int .i64 r97.1.1)
                                                                        (.store ⟨n98, 1, none⟩ (.int .i64 r97.1.2.1)
                                                                          (.store ⟨n98, 2, none⟩ (.string r97.1.2.2.1)
                                                                            (.store ⟨n98, 3, none⟩ (.slice r97.1.2.2.2.1.1 r97.1.2.2.2.1.2.1 r97.1.2.2.2.1.2.2)
                                                                              (.br (r97.snd.snd.fst == 0)
                                                                                (.cut (at_ Tryd.f4 [1, 1, 1, 1, 1, 1, 1, 1, 0, 1, 0, 0]) 165 (fx4_99 qs2 n1 r97 n98) mx4_99 (fun u110 g110 =>
                                                                                  .br u110.1
                                                                                    (.done (.returned (.bool false)))
                                                                                    (.load ⟨n1, 0, none⟩ (.int .i64) (fun x111 =>
                                                                                      .load ⟨n1, 1, none⟩ (.int .i64) (fun x112 =>
                                                                                        .load ⟨n1, 2, none⟩ .str (fun s113 =>
                                                                                          .load ⟨n1, 3, none⟩ .sl (fun l114 =>
                                                                                            .call 14 #[.agg #[.int .i64 x111, .int .i64 x112, .string s113, .slice l114.1 l114.2.1 l114.2.2]] (.one (.leaf .sl)) (fun l115 =>
                                                                                              .loop (at_ Tryd.f4 [1, 1, 1, 1, 1, 1, 1, 1, 1, 1, 0, 1, 0, 0]) 165 (fx4_116 l115) [(20, .int .i64 0)] mx4_116 mr4_116 0 (fun u120 g120 =>
                                                                                                .done (.returned (.bool (Decidable.decide ((↑l115.snd.fst : Int) > 0))))) (fun u121 g121 =>
                                                                                                .done (.returned (.bool u121.1)))))))))))
                                                                                (.cut (at_ Tryd.f4 [1, 1, 1, 1, 1, 1, 1, 1, 0, 1, 1, 0]) 165 (fx4_122 qs2 n1 r97 n98) mx4_122 (fun u128 g128 =>
                                                                                  .br u128.1
                                                                                    (.done (.returned (.bool false)))
                                                                                    (.load ⟨n1, 0, none⟩ (.int .i64) (fun x129 =>
                                                                                      .load ⟨n1, 1, none⟩ (.int .i64) (fun x130 =>
                                                                                        .load ⟨n1, 2, none⟩ .str (fun s131 =>
                                                                                          .load ⟨n1, 3, none⟩ .sl (fun l132 =>
                                                                                            .call 14 #[.agg #[.int .i64 x129, .int .i64 x130, .string s131, .slice l132.1 l132.2.1 l132.2.2]] (.one (.leaf .sl)) (fun l133 =>
                                                                                              .loop (at_ Tryd.f4 [1, 1, 1, 1, 1, 1, 1, 1, 1, 1, 0, 1, 0, 0]) 165 (fx4_134 l133) [(20, .int .i64 0)] mx4_134 mr4_134 0 (fun u138 g138 =>
                                                                                                .done (.returned (.bool (Decidable.decide ((↑l133.snd.fst : Int) > 0))))) (fun u139 g139 =>
                                                                                                .done (.returned (.bool u139.1))))))))))))))))) (fun ch140 =>
                                                                    .done (.panicked ch140))))))))))) (fun ch141 =>
                                                  .done (.panicked ch141)))))))))) (fun ch142 =>
                                  .done (.panicked ch142))))))))) (fun ch143 =>
                    .done (.panicked ch143)))))))))) := by kernel_rfl
/-! the tree of function 15 -/
def s15 : Script := .sym (.lit (.lit (.lit (.lit (.lit (.lit (.lit (.lit (.lit (.lit (.lit (.lit (.ld (.int .i64) (.ld (.int .i64) (.ld .str (.ld .sl (.lit (.lit (.cl (.one (.leaf .bool)) (.lit .nil)))))))))))))))))))) (.lit (.lit (.sym (.lit (.lit (.lit (.lit (.lit (.lit (.lit (.lit (.lit (.ld (.int .i64) (.ld (.int .i64) (.ld .str (.ld .sl (.lit (.lit (.cl (.one (.leaf .bool)) (.lit .nil))))))))))))))))) (.lit (.lit (.sym (.lit (.lit (.lit (.lit (.lit (.lit (.ld (.int .i64) (.ld (.int .i64) (.ld .str (.ld .sl (.lit (.lit (.cl (.one (.leaf .bool)) (.lit .nil)))))))))))))) (.lit (.lit (.sym (.lit (.lit (.lit (.ld (.int .i64) (.ld (.int .i64) (.ld .str (.ld .sl (.lit (.lit (.cl (.one (.leaf .bool)) (.lit .nil))))))))))) (.lit (.lit (.sym (.ld (.int .i64) (.ld (.int .i64) (.ld .str (.ld .sl (.lit (.lit (.cl (.one (.leaf .bool)) (.lit .nil)))))))) (.lit (.lit (.lit .nil)))))))))))))))
theorem t15 (qx0_0 : Int) (qx0_1 : Int) (qs0_2 : ByteArray) (qa0_3 : Option Addr) (qn0_3 : Nat) (qc0_3 : Nat) (qx1 : Int) : fnT Tryd.prog Tryd.f15 #[.agg #[.int .i64 qx0_0, .int .i64 qx0_1, .string qs0_2, .slice qa0_3 qn0_3 qc0_3], .int .i64 qx1] s15 =
  .new (.cells #[.int .i64 qx0_0, .int .i64 qx0_1, .string qs0_2, .slice qa0_3 qn0_3 qc0_3] 24 (0, 0)) (fun n1 =>
    .br (qx1 == 21)
      (.load ⟨n1, 0, none⟩ (.int .i64) (fun x2 =>
        .load ⟨n1, 1, none⟩ (.int .i64) (fun x3 =>
          .load ⟨n1, 2, none⟩ .str (fun s4 =>
            .load ⟨n1, 3, none⟩ .sl (fun l5 =>
              .call 12 #[.agg #[.int .i64 x2, .int .i64 x3, .string s4, .slice l5.1 l5.2.1 l5.2.2], .agg #[.int .i64 0, .int .i64 0, .string (bytesL []), .slice none 0 0]] (.one (.leaf .bool)) (fun b6 =>
                .done (.returned (.bool b6))))))))
      (.br (qx1 == 22)
        (.load ⟨n1, 0, none⟩ (.int .i64) (fun x7 =>
          .load ⟨n1, 1, none⟩ (.int .i64) (fun x8 =>
            .load ⟨n1, 2, none⟩ .str (fun s9 =>
              .load ⟨n1, 3, none⟩ .sl (fun l10 =>
                .call 12 #[.agg #[.int .i64 x7, .int .i64 x8, .string s9, .slice l10.1 l10.2.1 l10.2.2], .agg #[.int .i64 0, .int .i64 0, .string (bytesL []), .slice none 0 0]] (.one (.leaf .bool)) (fun b11 =>
                  .done (.returned (.bool b11))))))))
        (.br (qx1 == 23)
          (.load ⟨n1, 0, none⟩ (.int .i64) (fun x12 =>
            .load ⟨n1, 1, none⟩ (.int .i64) (fun x13 =>
              .load ⟨n1, 2, none⟩ .str (fun s14 =>
                .load ⟨n1, 3, none⟩ .sl (fun l15 =>
                  .call 12 #[.agg #[.int .i64 x12, .int .i64 x13, .string s14, .slice l15.1 l15.2.1 l15.2.2], .agg #[.int .i64 0, .int .i64 0, .string (bytesL []), .slice none 0 0]] (.one (.leaf .bool)) (fun b16 =>
                    .done (.returned (.bool b16))))))))
          (.br (qx1 == 28)
            (.load ⟨n1, 0, none⟩ (.int .i64) (fun x17 =>
              .load ⟨n1, 1, none⟩ (.int .i64) (fun x18 =>
                .load ⟨n1, 2, none⟩ .str (fun s19 =>
                  .load ⟨n1, 3, none⟩ .sl (fun l20 =>
                    .call 12 #[.agg #[.int .i64 x17, .int .i64 x18, .string s19, .slice l20.1 l20.2.1 l20.2.2], .agg #[.int .i64 0, .int .i64 0, .string (bytesL []), .slice none 0 0]] (.one (.leaf .bool)) (fun b21 =>
                      .done (.returned (.bool b21))))))))
            (.br (qx1 == 29)
              (.load ⟨n1, 0, none⟩ (.int .i64) (fun x22 =>
                .load ⟨n1, 1, none⟩ (.int .i64) (fun x23 =>
                  .load ⟨n1, 2, none⟩ .str (fun s24 =>
                    .load ⟨n1, 3, none⟩ .sl (fun l25 =>
                      .call 12 #[.agg #[.int .i64 x22, .int .i64 x23, .string s24, .slice l25.1 l25.2.1 l25.2.2], .agg #[.int .i64 0, .int .i64 0, .string (bytesL []), .slice none 0 0]] (.one (.leaf .bool)) (fun b26 =>
                        .done (.returned (.bool b26))))))))
              (.done (.returned (.bool false)))))))) := by kernel_rfl

theorem refused_any (er : Int) (h : RdErr er) (w : World) : Calls Tryd.prog 15 #[valV noneV none 0 0, .int .i64 er] w fun e w' => e = .returned (.bool true) ∧ Ch No w w' := by
  refine calls_of_fnT mixed Tryd.func15 (s := s15) ?_
  unfold valV
  rw [t15]
  refine nw fun w1 h1 z1 b1 => ?_
  have b1 : Blk w1 w.heap.size (cellsV noneV none 0 0) 24 := b1
  have sm : ∀ w2, Ch No w w2 → Calls Tryd.prog 12 #[valV noneV none 0 0, valV noneV none 0 0] w2 fun e w' => e = .returned (.bool true) ∧ Ch No w w' := fun w2 h2 =>
    (same_any _ noneV noneV none 0 0 none 0 0 w2 (Nat.lt_succ_self _) (noneV_is w2) (noneV_is w2)).mono fun e w' ⟨he, hc⟩ => ⟨by rw [he, same_refl good_none], h2.trans hc⟩
  refine br_both (fun e => ?_) fun e1 => br_both (fun e => ?_) fun e2 => br_both (fun e => ?_) fun e3 => br_both (fun e => ?_) fun e4 => br_both (fun e => ?_) fun e5 => ?_
  · refine ld_v b1 (cl_i (sm w1 h1) ?_)
    rintro r w2 ⟨rfl, h2⟩
    exact ⟨_, rfl, rfl, h2⟩
  · refine ld_v b1 (cl_i (sm w1 h1) ?_)
    rintro r w2 ⟨rfl, h2⟩
    exact ⟨_, rfl, rfl, h2⟩
  · refine ld_v b1 (cl_i (sm w1 h1) ?_)
    rintro r w2 ⟨rfl, h2⟩
    exact ⟨_, rfl, rfl, h2⟩
  · refine ld_v b1 (cl_i (sm w1 h1) ?_)
    rintro r w2 ⟨rfl, h2⟩
    exact ⟨_, rfl, rfl, h2⟩
  · refine ld_v b1 (cl_i (sm w1 h1) ?_)
    rintro r w2 ⟨rfl, h2⟩
    exact ⟨_, rfl, rfl, h2⟩
  · rcases h with rfl | rfl | rfl | rfl | rfl
    · cases e1
    · cases e2
    · cases e3
    · cases e4
    · cases e5
theorem canon_tail {Q : Exit → List (Tmp × Value) → World → Prop} (w0 w : World) (h0 : Ch No w0 w) (n1 : Nat) (x : VT) (p : Option Addr) (m c : Nat) (b1 : Blk w n1 (cellsV x p m c) 24) (hx : IsV w x p m c) (fx : Fit x) :
    wpT Tryd.prog (fun e w' => e = .returned (.bool true) ∧ Ch No w0 w') Q (.load ⟨n1, 0, none⟩ (.int .i64) (fun x60 => .load ⟨n1, 1, none⟩ (.int .i64) (fun x61 => .load ⟨n1, 2, none⟩ .str (fun s62 => .load ⟨n1, 3, none⟩ .sl (fun l63 => .call 14 #[.agg #[.int .i64 x60, .int .i64 x61, .string s62, .slice l63.1 l63.2.1 l63.2.2]] (.one (.leaf .sl)) (fun l64 => .loop (at_ Tryd.f4 [1, 1, 1, 1, 1, 1, 1, 1, 1, 1, 0, 1, 0, 0]) 165 (fx4_65 l64) [(20, .int .i64 0)] mx4_65 mr4_65 0 (fun u69 g69 => .done (.returned (.bool (Decidable.decide ((↑l64.snd.fst : Int) > 0))))) (fun u70 g70 => .done (.returned (.bool u70.1))))))))) .pl w := by
  refine ld_v b1 ?_
  refine cl_i (Encode_any x p m c w hx fx) ?_
  rintro r w1 ⟨q, n, d, rfl, hR, h1⟩
  refine ⟨(q, n, d), rfl, ?_⟩
  have hat := hR.at
  have hlen := hR.len
  have hnd := hR.cap
  have hdm : d ≤ 9223372036854775807 := by
    have hh : Row w1 w.heap.size 5 1 q n d _ := hR
    rcases hh.2 with ⟨e, he⟩ | ⟨g, cap, cur, e, _, _, _, hm, _⟩
    · simp only [Value.slice.injEq] at e
      omega
    · simp only [Value.slice.injEq, true_and] at e
      have : maxLen = 9223372036854775807 := by decide
      omega
  have hck := validV_check x
  have hvf := validV_fit fx
  refine loop_i mixed m4_65 s4_65 (by kernel_rfl) (by kernel_rfl)
    (fun (v : Int × Unit) w' => ∃ j : Nat, v.1 = j ∧ j ≤ n ∧ Ch No w1 w') (fun (v : Int × Unit) _ => n - v.1.toNat) (0, ()) rfl ⟨0, rfl, by omega, Ch.refl _ _⟩ ?_
  rintro ⟨_, ⟨⟩⟩ g w2 ⟨j, rfl, hj, h2⟩
  rw [t4_65]
  dsimp only
  refine br_both (fun e => ?_) fun e => ?_
  · have e : (j : Int) < (n : Int) := of_decide_eq_true e
    refine ⟨decide_eq_true ⟨by decide, by omega, by show (j : Int) ≤ (d : Int); omega⟩, ?_⟩
    rw [Int.toNat_natCast]
    have hpart := (hat.no h2).part hnd 0 j (by omega) (by omega)
    rw [List.drop_zero, Nat.sub_zero] at hpart
    refine cp_i (decode_any w2 _ (j - 0) (d - 0) ((encodeV x).take j) (by rw [Nat.sub_zero]; exact hpart) (by omega) (by omega)) ?_
    rintro r w3 ⟨h3, hr⟩
    have hpre : decodeM ((encodeV x).take j) = .error 28 := decode_pre (validV x) hvf hck j (by unfold encodeV at hlen; omega)
    rw [hpre] at hr
    obtain rfl := hr
    refine .inl ⟨((0, 0, bytesL [], (none, 0, 0), ()), 0, 28, ()), rfl, ?_⟩
    refine put_v (x := noneV) (p := none) (m := 0) (c := 0) fun w4 h4 b4 => ?_
    refine br_false rfl (br_false rfl ?_)
    have hwj : IntKind.i64.wrap ((j : Int) + 1) = ((j + 1 : Nat) : Int) := by rw [IntKind.wrap_i64]; omega
    rw [hwj]
    exact ⟨(((j + 1 : Nat) : Int), ()), rfl, ⟨j + 1, rfl, by omega, h2.trans (h3.trans h4)⟩, by dsimp only; omega⟩
  · have e : ¬ (j : Int) < (n : Int) := of_decide_eq_false e
    refine ⟨rfl, (), rfl, fun g => ⟨?_, h0.trans (h1.trans h2)⟩⟩
    have := enc_pos (validV x)
    unfold encodeV at hlen
    have hn : (n : Int) > 0 := by omega
    rw [decide_eq_true hn]
theorem canon_parse {Q : Exit → List (Tmp × Value) → World → Prop} (w0 w : World) (h0 : Ch No w0 w) (n1 : Nat) (x : VT) (p : Option Addr) (m c : Nat) (b1 : Blk w n1 (cellsV x p m c) 24) (hx : IsV w x p m c) (fx : Fit x)
    (qs2 : ByteArray) (hs : qs2.size ≤ 140737488355328) (hT : Tabs w) (hE : Ev w) (h7g : 7 ≤ w.heap.size) :
    wpT Tryd.prog (fun e w' => e = .returned (.bool true) ∧ Ch No w0 w') Q (.callp 10 #[.string qs2] (.tup [.agg [.int .i64, .int .i64, .str, .sl], .leaf (.int .i64), .leaf (.int .i64)]) (fun r46 => .new (.cells #[.int .i64 0, .int .i64 0, .string (bytesL []), .slice none 0 0] 24 (0, 0)) (fun n47 => .store ⟨n47, 0, none⟩ (.int .i64 r46.1.1) (.store ⟨n47, 1, none⟩ (.int .i64 r46.1.2.1) (.store ⟨n47, 2, none⟩ (.string r46.1.2.2.1) (.store ⟨n47, 3, none⟩ (.slice r46.1.2.2.2.1.1 r46.1.2.2.2.1.2.1 r46.1.2.2.2.1.2.2) (.br (r46.snd.snd.fst == 0) (.cut (at_ Tryd.f4 [1, 1, 1, 1, 1, 1, 1, 1, 0, 1, 0, 0]) 165 (fx4_48 qs2 n1 r46 n47) mx4_48 (fun u59 g59 => .br u59.1 (.done (.returned (.bool false))) (.load ⟨n1, 0, none⟩ (.int .i64) (fun x60 => .load ⟨n1, 1, none⟩ (.int .i64) (fun x61 => .load ⟨n1, 2, none⟩ .str (fun s62 => .load ⟨n1, 3, none⟩ .sl (fun l63 => .call 14 #[.agg #[.int .i64 x60, .int .i64 x61, .string s62, .slice l63.1 l63.2.1 l63.2.2]] (.one (.leaf .sl)) (fun l64 => .loop (at_ Tryd.f4 [1, 1, 1, 1, 1, 1, 1, 1, 1, 1, 0, 1, 0, 0]) 165 (fx4_65 l64) [(20, .int .i64 0)] mx4_65 mr4_65 0 (fun u69 g69 => .done (.returned (.bool (Decidable.decide ((↑l64.snd.fst : Int) > 0))))) (fun u70 g70 => .done (.returned (.bool u70.1))))))))))) (.cut (at_ Tryd.f4 [1, 1, 1, 1, 1, 1, 1, 1, 0, 1, 1, 0]) 165 (fx4_71 qs2 n1 r46 n47) mx4_71 (fun u77 g77 => .br u77.1 (.done (.returned (.bool false))) (.load ⟨n1, 0, none⟩ (.int .i64) (fun x78 => .load ⟨n1, 1, none⟩ (.int .i64) (fun x79 => .load ⟨n1, 2, none⟩ .str (fun s80 => .load ⟨n1, 3, none⟩ .sl (fun l81 => .call 14 #[.agg #[.int .i64 x78, .int .i64 x79, .string s80, .slice l81.1 l81.2.1 l81.2.2]] (.one (.leaf .sl)) (fun l82 => .loop (at_ Tryd.f4 [1, 1, 1, 1, 1, 1, 1, 1, 1, 1, 0, 1, 0, 0]) 165 (fx4_83 l82) [(20, .int .i64 0)] mx4_83 mr4_83 0 (fun u87 g87 => .done (.returned (.bool (Decidable.decide ((↑l82.snd.fst : Int) > 0))))) (fun u88 g88 => .done (.returned (.bool u88.1))))))))))))))))) (fun ch89 => .done (.panicked ch89))) .pl w := by
  refine cp_i (parse_any w qs2 hs hT hE h7g) ?_
  rintro r w1 ⟨h1, hr⟩
  cases hpm : parseM qs2.data.toList with
  | none =>
    rw [hpm] at hr
    obtain ⟨er, a, rfl, he, a0, a1⟩ := hr
    refine .inl ⟨((0, 0, bytesL [], (none, 0, 0), ()), a, er, ()), rfl, ?_⟩
    refine put_v (x := noneV) (p := none) (m := 0) (c := 0) fun w2 h2 b2 => ?_
    have h12 := h1.trans h2
    refine br_false ?_ ?_
    · show (er == 0) = false
      rcases he with rfl | rfl | rfl | rfl | rfl <;> rfl
    refine cut_i mixed s4_71 (fun (v : Bool × Unit) w' => v.1 = false ∧ Ch No w2 w') (by kernel_rfl) (fun g => ?_) ?_
    · rw [t4_71]
      refine br_false (decide_eq_false (by show ¬ a < 0; omega)) (br_false (decide_eq_false (by show ¬ a > (qs2.size : Int); omega)) ?_)
      refine ld_v b2 (cl_i (refused_any er he w2) ?_)
      rintro r w3 ⟨rfl, h3⟩
      exact ⟨_, rfl, rfl, (_, ()), rfl, rfl, h3⟩
    rintro ⟨b, ⟨⟩⟩ g w3 ⟨hb, h3⟩
    dsimp only at hb
    subst hb
    refine br_false rfl ?_
    have h13 := h12.trans h3
    exact canon_tail w0 w3 (h0.trans h13) n1 x p m c (b1.ch h13 (fun h => h)) (hx.no h13) fx
  | some y =>
    obtain ⟨z, nz⟩ := y
    rw [hpm] at hr
    obtain ⟨q, n, d, rfl, hz⟩ := hr
    have hck : checkV z = 0 := by
      unfold parseM at hpm
      cases hx : rdV 4 0 (blanksM qs2.data.toList) 0 with
      | none => rw [hx] at hpm; cases hpm
      | some y =>
        obtain ⟨z', l1, n1⟩ := y
        rw [hx] at hpm
        dsimp only at hpm
        split at hpm
        · cases hpm
          have := (rd_is 4 _ _ _ _ _ _ hx).1
          unfold checkV
          rw [this]
        · cases hpm
    refine .inl ⟨((z.kind, z.int, z.text, (q, n, d), ()), (qs2.size : Int), 0, ()), rfl, ?_⟩
    refine put_v (x := z) (p := q) (m := n) (c := d) fun w2 h2 b2 => ?_
    have h12 := h1.trans h2
    refine br_true rfl ?_
    refine cut_i mixed s4_48 (fun (v : Bool × Unit) w' => v.1 = false ∧ Ch No w2 w') (by kernel_rfl) (fun g => ?_) ?_
    · rw [t4_48]
      refine br_false (by show ((qs2.size : Int) != (qs2.size : Int)) = false; simp) ?_
      refine ld_v b2 (cl_i (check_any z q n d w2 (hz.no h2)) ?_)
      rintro r w3 ⟨rfl, h3⟩
      refine ⟨_, rfl, br_false (by rw [hck]; rfl) ?_⟩
      refine ld_v (b2.ch h3 (fun h => h)) (cl_i (count_any _ z q n d w3 0 (Nat.lt_succ_self _) ((hz.no h2).no h3) (by omega) (by omega)) ?_)
      rintro r w4 ⟨rfl, h4⟩
      refine ⟨_, rfl, rfl, (_, ()), rfl, ?_, h3.trans h4⟩
      exact decide_eq_false (fun h => (clean_valid z).1 h hck)
    rintro ⟨b, ⟨⟩⟩ g w3 ⟨hb, h3⟩
    dsimp only at hb
    subst hb
    refine br_false rfl ?_
    have h13 := h12.trans h3
    exact canon_tail w0 w3 (h0.trans h13) n1 x p m c (b1.ch h13 (fun h => h)) (hx.no h13) fx
theorem parse7 : parseM (bytesL [55]).data.toList = some (.mk 1 7 (bytesL []) [], 1) := by kernel_rfl
theorem decode12 : decodeM [1, 2] = .ok (.mk 1 1 (bytesL []) [], [], 1) := by kernel_rfl
set_option maxHeartbeats 1000000 in
theorem canon_any (x : VT) (p : Option Addr) (m c : Nat) (w : World) (hx : IsV w x p m c) (fx : Fit x) (b : Option Addr) (bn bc : Nat) (bs : List UInt8) (hb : AtB w b bn bs) (hbc : bn ≤ bc) (hbig : bc ≤ 9223372036854775807)
    (s : ByteArray) (hs : s.size ≤ 140737488355328) (hT : Tabs w) (hE : Ev w) (h7g : 7 ≤ w.heap.size) :
    Calls Tryd.prog 4 #[valV x p m c, .slice b bn bc, .string s] w fun e w' => e = .returned (.bool true) ∧ Ch No w w' := by
  refine calls_of_fnT mixed Tryd.func4 (s := s4) ?_
  unfold valV
  rw [t4]
  refine nw fun w1 h1 z1 (b1 : Blk w1 w.heap.size (cellsV x p m c) 24) => ?_
  refine ld_v b1 ?_
  refine nw fun w2 h2 z2 (b2 : Blk w2 w1.heap.size (cellsV x p m c) 24) => ?_
  have H2 : Ch No w w2 := h1.trans h2
  refine cl_i (few_any _ _ 1 1 w2 (one_is (hx.no H2) b2)) ?_
  rintro r w3 ⟨rfl, h3⟩
  have H3 := H2.trans h3
  have B3 := (b1.ch h2 (fun h => h)).ch h3 (fun h => h)
  refine ⟨_, rfl, br_both (fun _ => ⟨rfl, H3⟩) fun _ => ?_⟩
  have sz : ∀ {w' : World}, Ch No w w' → 7 ≤ w'.heap.size := fun h => Nat.le_trans h7g h.size
  refine cp_i (parse_any w3 (bytesL [55]) (by decide) (hT.no H3) (hE.ch H3 (fun h => h)) (sz H3)) ?_
  rintro r w4 ⟨h4, hr⟩
  rw [parse7] at hr
  obtain ⟨q7, n7, d7, rfl, v7⟩ := hr
  refine .inl ⟨((1, 7, bytesL [], (q7, n7, d7), ()), 1, 0, ()), rfl, ?_⟩
  refine put_v (x := .mk 1 7 (bytesL []) []) (p := q7) (m := n7) (c := d7) fun w5 h5 b5 => ?_
  have H5 := H3.trans (h4.trans h5)
  refine nw fun w6 h6 z6 b6 => ?_
  have H6 := H5.trans h6
  refine cp_i (decode_any w6 (some ⟨w5.heap.size, 0, none⟩) 2 2 [1, 2] (AtB.of_blk (bs := [1, 2]) b6) (by omega) (by omega)) ?_
  rintro r w7 ⟨h7, hr⟩
  rw [decode12] at hr
  obtain ⟨q1, n1, d1, rfl, v1⟩ := hr
  refine .inl ⟨((1, 1, bytesL [], (q1, n1, d1), ()), 2, 0, ()), rfl, ?_⟩
  refine put_v (x := .mk 1 1 (bytesL []) []) (p := q1) (m := n1) (c := d1) fun w8 h8 b8 => ?_
  have H8 := H6.trans (h7.trans h8)
  have B5 := ((b5.ch h6 (fun h => h)).ch h7 (fun h => h)).ch h8 (fun h => h)
  refine cut_i mixed s4_13 (fun (v : Bool × Unit) w' => v.1 = false ∧ Ch No w8 w') (by kernel_rfl) (fun g => ?_) ?_
  · rw [t4_13]
    refine br_false rfl (br_false rfl ?_)
    refine ld_v B5 (cl_i (same_any _ (.mk 1 7 (bytesL []) []) (.mk 1 7 (bytesL []) []) q7 n7 d7 none 0 0 w8 (Nat.lt_succ_self _) ((((v7.no h5).no h6).no h7).no h8) (IsVB.flat (B := fun _ => True) (w := w8) 1 7 (bytesL [])).is) ?_)
    rintro r w9 ⟨rfl, h9⟩
    refine ⟨_, rfl, br_false (by rw [same_refl (good_flat1 7)]; rfl) (br_false rfl (br_false rfl ?_))⟩
    refine ld_v (b8.ch h9 (fun h => h)) (cl_i (same_any _ (.mk 1 1 (bytesL []) []) (.mk 1 1 (bytesL []) []) q1 n1 d1 none 0 0 w9 (Nat.lt_succ_self _) ((v1.no h8).no h9) (IsVB.flat (B := fun _ => True) (w := w9) 1 1 (bytesL [])).is) ?_)
    rintro r w10 ⟨rfl, h10⟩
    refine ⟨_, rfl, rfl, (_, ()), rfl, ?_, h9.trans h10⟩
    show (!sameV _ _) = false
    rw [same_refl (good_flat1 1)]; rfl
  rintro ⟨v, ⟨⟩⟩ g w9 ⟨hv, h9⟩
  dsimp only at hv
  subst hv
  refine br_false rfl ?_
  have H9 := H8.trans h9
  refine cp_i (decode_any w9 b bn bc bs (hb.no H9) hbc hbig) ?_
  rintro r w10 ⟨h10, hr⟩
  have H10 := H9.trans h10
  have B1 : ∀ {w'}, Ch No w3 w' → Blk w' w.heap.size (cellsV x p m c) 24 := fun h => B3.ch h (fun h => h)
  have h3_10 : Ch No w3 w10 := (h4.trans h5).trans (h6.trans (h7.trans (h8.trans (h9.trans h10))))
  cases hdm : decodeM bs with
  | error er =>
    rw [hdm] at hr
    obtain rfl := hr
    refine .inl ⟨((0, 0, bytesL [], (none, 0, 0), ()), 0, er, ()), rfl, ?_⟩
    refine put_v (x := noneV) (p := none) (m := 0) (c := 0) fun w11 h11 b11 => ?_
    have hde := dec_err 4 0 bs 0 er hdm
    refine br_false ?_ ?_
    · show (er == 0) = false
      rcases hde with rfl | rfl | rfl | rfl <;> rfl
    refine cut_i mixed s4_90 (fun (v : Bool × Unit) w' => v.1 = false ∧ Ch No w11 w') (by kernel_rfl) (fun g => ?_) ?_
    · rw [t4_90]
      refine br_false rfl ?_
      refine ld_v b11 (cl_i (refused_any er (by rcases hde with h | h | h | h <;> unfold RdErr <;> omega) w11) ?_)
      rintro r w12 ⟨rfl, h12⟩
      exact ⟨_, rfl, rfl, (_, ()), rfl, rfl, h12⟩
    rintro ⟨v, ⟨⟩⟩ g w12 ⟨hv, h12⟩
    dsimp only at hv
    subst hv
    refine br_false rfl ?_
    have H12 := H10.trans (h11.trans h12)
    exact canon_parse w w12 H12 w.heap.size x p m c (B1 (h3_10.trans (h11.trans h12))) (hx.no H12) fx s hs (hT.no H12) (hE.ch H12 (fun h => h)) (sz H12)
  | ok y =>
    obtain ⟨z, l', nz⟩ := y
    rw [hdm] at hr
    obtain ⟨q, n, d, rfl, hz⟩ := hr
    obtain ⟨hck, hsp, hfz⟩ := decode_is hdm
    have hvz : validV z = z := by unfold validV; rw [if_pos hck]
    have hbl : bs.length = (encV z).length + l'.length := by rw [hsp, List.length_append]
    have hpos := enc_pos z
    refine .inl ⟨((z.kind, z.int, z.text, (q, n, d), ()), ((bs.length - l'.length : Nat) : Int), 0, ()), rfl, ?_⟩
    refine put_v (x := z) (p := q) (m := n) (c := d) fun w11 h11 b11 => ?_
    refine br_true rfl ?_
    have hkk : bs.length - l'.length = (encV z).length := by omega
    rw [hkk]
    have hbn := hb.1
    refine cut_i mixed s4_27 (fun (v : Bool × Unit) w' => v.1 = false ∧ Ch No w11 w') (by kernel_rfl) (fun g => ?_) ?_
    · rw [t4_27]
      have hdr : Ch No w11 w11.drew := (Ch.refl _ _).drew
      refine ⟨fun w' => Ch No w11 w', hdr, ?_⟩
      have H11 := H10.trans h11
      have zC : ∀ w', Ch No w11 w' → IsV w' z q n d := fun w' h => (hz.no h11).no h
      have bC : ∀ w', Ch No w11 w' → Blk w' w10.heap.size (cellsV z q n d) 24 := fun w' h => b11.ch h (fun h => h)
      have aC : ∀ w', Ch No w11 w' → AtB w' (if bc = 0 then b else b.map (·.add (0 * 1))) ((encV z).length - 0) ((bs.drop 0).take ((encV z).length - 0)) := fun w' h => ((hb.no H11).no h).part hbc 0 (encV z).length (by omega) (by omega)
      have htk : (bs.drop 0).take ((encV z).length - 0) = encV z := by
        rw [List.drop_zero, Nat.sub_zero, hsp, List.take_left' rfl]
      rw [htk] at aC
      have hev : encodeV z = encV z := by unfold encodeV; rw [hvz]
      generalize w11.drew = w12 at *
      have eqs : (!((⟨(encodeV z).toArray⟩ : ByteArray).toList == (⟨(encV z).toArray⟩ : ByteArray).toList)) = false := by
        rw [hev]; simp
      refine br_false (decide_eq_false (by show ¬ (((encV z).length : Nat) : Int) < 1; omega)) (br_false (decide_eq_false (by show ¬ (((encV z).length : Nat) : Int) > (bn : Int); omega)) ?_)
      refine lh_v bC (eff_i ?_)
      refine cl_i (check_any z q n d w12 (zC _ hdr)) ?_
      rintro r w13 ⟨rfl, h13⟩
      have hd13 := hdr.trans h13
      refine ⟨_, rfl, bk hd13 (br_false (by rw [hck]; rfl) ?_)⟩
      refine lh_v bC ?_
      refine ⟨decide_eq_true ⟨by decide, by show (0 : Int) ≤ (((encV z).length : Nat) : Int); omega, by show (((encV z).length : Nat) : Int) ≤ (bc : Int); omega⟩, ?_⟩
      show wpT _ _ _ (.both _ _) _ _
      rw [Int.toNat_natCast]
      refine ⟨?_, ?_, trivial⟩
      · refine eff_i (cl_i (Encode_any z q n d w13 (zC _ hd13) hfz) ?_)
        rintro r w14 ⟨q', n', d', rfl, hR, h14⟩
        have hd14 := hd13.trans h14
        refine ⟨(q', n', d'), rfl, bk hd14 ⟨?_, ?_, trivial⟩⟩
        · refine eff_i (cv_b hR.at (bk hd14 (eff_i (cv_b (aC _ hd14) (bk hd14 ?_)))))
          exact ⟨rfl, (_, ()), rfl, eqs, hd14⟩
        · refine eff_i (cv_b (aC _ hd14) (bk hd14 (eff_i (cv_b hR.at (bk hd14 ?_)))))
          exact ⟨rfl, (_, ()), rfl, eqs, hd14⟩
      · refine eff_i (cv_b (aC _ hd13) (bk hd13 (eff_i (cl_i (Encode_any z q n d w13 (zC _ hd13) hfz) ?_))))
        rintro r w14 ⟨q', n', d', rfl, hR, h14⟩
        have hd14 := hd13.trans h14
        refine ⟨(q', n', d'), rfl, bk hd14 (eff_i (cv_b hR.at (bk hd14 ?_)))⟩
        exact ⟨rfl, (_, ()), rfl, eqs, hd14⟩
    rintro ⟨v, ⟨⟩⟩ g w12 ⟨hv, h12⟩
    dsimp only at hv
    subst hv
    refine br_false rfl ?_
    have H12 := H10.trans (h11.trans h12)
    exact canon_parse w w12 H12 w.heap.size x p m c (B1 (h3_10.trans (h11.trans h12))) (hx.no H12) fx s hs (hT.no H12) (hE.ch H12 (fun h => h)) (sz H12)
end Go.Proofs.YtjellmblammiaaaDoor
