/- The document's answer: a number of a word; the steps' words. -/
import Derived.Test.YtjlmkahagcojcaaGreatDoorPrq
namespace Go.Proofs.YtjlmkahagcojcaaGreatDoor
open Go Tr
set_option maxRecDepth 100000
/-! the tree of function 62 -/
abbrev fx62_1 (qs0 : ByteArray) (qb1 : Bool) : List (Tmp × Value) := [(0, .string qs0), (1, .bool qb1), (6, .int .i64 1)]
abbrev mx62_1 : List (Tmp × Comp) := [(18, .leaf .bool)]
def s62_1 : Script := .sym (.lit (.lit (.sym (.lit (.ix (.lit (.lit .nil)))) (.lit (.lit (.lit .nil)))))) (.lit (.lit (.lit (.lit (.lit (.lit .nil))))))
theorem t62_1 (qs0 : ByteArray) (qb1 : Bool) (g : Nat → Value) : pieceT Tryz.prog (at_ Tryz.f62 [1, 1, 0, 0]) 55 (fx62_1 qs0 qb1) g (mx62_1.map (·.1)) [] [] s62_1 =
  .br qb1
    (.br (!qs0.toList == (bytesL []).toList)
      (.bidx qs0 0 (fun c2 =>
        .fin .normal [(18, .bool (c2 == 45))]))
      (.fin .normal [(18, .bool false)]))
    (.fin .normal [(18, .bool false)]) := by kernel_rfl
abbrev fx62_4 (qs0 : ByteArray) : List (Tmp × Value) := [(0, .string (qs0.extract 1 qs0.size)), (6, .int .i64 (-1))]
abbrev mx62_4 : List (Tmp × Comp) := [(27, .leaf .bool)]
def s62_4 : Script := .sym (.lit (.lit (.lit .nil))) (.lit (.lit (.lit .nil)))
theorem t62_4 (qs0 : ByteArray) (g : Nat → Value) : pieceT Tryz.prog (at_ Tryz.f62 [1, 1, 1, 0, 0]) 55 (fx62_4 qs0) g (mx62_4.map (·.1)) [] [] s62_4 =
  .br ((qs0.extract 1 qs0.size).toList == (bytesL []).toList)
    (.fin .normal [(27, .bool true)])
    (.fin .normal [(27, .bool (Decidable.decide ((↑(qs0.extract 1 qs0.size).size : Int) > 9)))]) := by kernel_rfl
abbrev fx62_6 (qs0 : ByteArray) : List (Tmp × Value) := [(0, .string (qs0.extract 1 qs0.size)), (6, .int .i64 (-1))]
abbrev m62_6 : List (Tmp × Comp) := [(7, .leaf (.int .i64)), (8, .leaf (.int .i64))]
abbrev mx62_6 : List (Tmp × Comp) := [(7, .leaf (.int .i64))]
abbrev mr62_6 : List (Tmp × Comp) := [(4, .leaf (.int .i64)), (5, .leaf .bool)]
abbrev fx62_7 (qs0 : ByteArray) (x_7 : Int) (x_8 : Int) : List (Tmp × Value) := [(0, .string (qs0.extract 1 qs0.size)), (6, .int .i64 (-1)), (7, .int .i64 x_7), (8, .int .i64 x_8)]
abbrev mx62_7 : List (Tmp × Comp) := [(43, .leaf .bool)]
def s62_7 : Script := .ix (.sym (.lit (.lit (.lit (.lit .nil)))) (.lit (.lit (.ix (.lit (.lit .nil))))))
theorem t62_7 (qs0 : ByteArray) (x_7 : Int) (x_8 : Int) (g : Nat → Value) : pieceT Tryz.prog (at_ Tryz.f62 [1, 1, 1, 1, 1, 0, 1, 0, 0, 1, 0, 0, 0, 0]) 55 (fx62_7 qs0 x_7 x_8) g (mx62_7.map (·.1)) [] [] s62_7 =
  .bidx (qs0.extract 1 qs0.size) x_8 (fun c8 =>
    .br (Decidable.decide (c8 < 48))
      (.fin .normal [(43, .bool true)])
      (.bidx (qs0.extract 1 qs0.size) x_8 (fun c9 =>
        .fin .normal [(43, .bool (Decidable.decide (c9 > 57)))]))) := by kernel_rfl
def s62_6 : Script := .sym (.ct 2 [0, 6, 7, 8] mx62_7 (.sym .nil (.ix .nil))) .nil
theorem t62_6 (qs0 : ByteArray) (x_7 : Int) (x_8 : Int) (g : Nat → Value) : pieceT Tryz.prog (at_ Tryz.f62 [1, 1, 1, 1, 1, 0, 1, 0, 0]) 55 (fx62_6 qs0 ++ mvals m62_6 (x_7, x_8, ())) g (m62_6.map (·.1)) (mx62_6.map (·.1)) (mr62_6.map (·.1)) s62_6 =
  .br (Decidable.decide (x_8 < (↑(qs0.extract 1 qs0.size).size : Int)))
    (.cut (at_ Tryz.f62 [1, 1, 1, 1, 1, 0, 1, 0, 0, 1, 0, 0, 0, 0]) 55 (fx62_7 qs0 x_7 x_8) mx62_7 (fun u10 g10 =>
      .br u10.1
        (.fin .ret [(4, .int .i64 0), (5, .bool false)])
        (.bidx (qs0.extract 1 qs0.size) x_8 (fun c11 =>
          .fin .normal [(7, .int .i64 (IntKind.i64.wrap (IntKind.i64.wrap (10 * x_7) + IntKind.i64.wrap (IntKind.u8.wrap (c11 - 48))))), (8, .int .i64 (IntKind.i64.wrap (x_8 + 1)))]))))
    (.fin (.exit 0) [(7, .int .i64 x_7)]) := by kernel_rfl
abbrev fx62_14 (qs0 : ByteArray) : List (Tmp × Value) := [(0, .string qs0), (6, .int .i64 1)]
abbrev mx62_14 : List (Tmp × Comp) := [(27, .leaf .bool)]
def s62_14 : Script := .sym (.lit (.lit (.lit .nil))) (.lit (.lit (.lit .nil)))
theorem t62_14 (qs0 : ByteArray) (g : Nat → Value) : pieceT Tryz.prog (at_ Tryz.f62 [1, 1, 1, 0, 0]) 55 (fx62_14 qs0) g (mx62_14.map (·.1)) [] [] s62_14 =
  .br (qs0.toList == (bytesL []).toList)
    (.fin .normal [(27, .bool true)])
    (.fin .normal [(27, .bool (Decidable.decide ((↑qs0.size : Int) > 9)))]) := by kernel_rfl
abbrev fx62_16 (qs0 : ByteArray) : List (Tmp × Value) := [(0, .string qs0), (6, .int .i64 1)]
abbrev m62_16 : List (Tmp × Comp) := [(7, .leaf (.int .i64)), (8, .leaf (.int .i64))]
abbrev mx62_16 : List (Tmp × Comp) := [(7, .leaf (.int .i64))]
abbrev mr62_16 : List (Tmp × Comp) := [(4, .leaf (.int .i64)), (5, .leaf .bool)]
abbrev fx62_17 (qs0 : ByteArray) (x_7 : Int) (x_8 : Int) : List (Tmp × Value) := [(0, .string qs0), (6, .int .i64 1), (7, .int .i64 x_7), (8, .int .i64 x_8)]
abbrev mx62_17 : List (Tmp × Comp) := [(43, .leaf .bool)]
def s62_17 : Script := .ix (.sym (.lit (.lit (.lit (.lit .nil)))) (.lit (.lit (.ix (.lit (.lit .nil))))))
theorem t62_17 (qs0 : ByteArray) (x_7 : Int) (x_8 : Int) (g : Nat → Value) : pieceT Tryz.prog (at_ Tryz.f62 [1, 1, 1, 1, 1, 0, 1, 0, 0, 1, 0, 0, 0, 0]) 55 (fx62_17 qs0 x_7 x_8) g (mx62_17.map (·.1)) [] [] s62_17 =
  .bidx qs0 x_8 (fun c18 =>
    .br (Decidable.decide (c18 < 48))
      (.fin .normal [(43, .bool true)])
      (.bidx qs0 x_8 (fun c19 =>
        .fin .normal [(43, .bool (Decidable.decide (c19 > 57)))]))) := by kernel_rfl
def s62_16 : Script := .sym (.ct 2 [0, 6, 7, 8] mx62_17 (.sym .nil (.ix .nil))) .nil
theorem t62_16 (qs0 : ByteArray) (x_7 : Int) (x_8 : Int) (g : Nat → Value) : pieceT Tryz.prog (at_ Tryz.f62 [1, 1, 1, 1, 1, 0, 1, 0, 0]) 55 (fx62_16 qs0 ++ mvals m62_16 (x_7, x_8, ())) g (m62_16.map (·.1)) (mx62_16.map (·.1)) (mr62_16.map (·.1)) s62_16 =
  .br (Decidable.decide (x_8 < (↑qs0.size : Int)))
    (.cut (at_ Tryz.f62 [1, 1, 1, 1, 1, 0, 1, 0, 0, 1, 0, 0, 0, 0]) 55 (fx62_17 qs0 x_7 x_8) mx62_17 (fun u20 g20 =>
      .br u20.1
        (.fin .ret [(4, .int .i64 0), (5, .bool false)])
        (.bidx qs0 x_8 (fun c21 =>
          .fin .normal [(7, .int .i64 (IntKind.i64.wrap (IntKind.i64.wrap (10 * x_7) + IntKind.i64.wrap (IntKind.u8.wrap (c21 - 48))))), (8, .int .i64 (IntKind.i64.wrap (x_8 + 1)))]))))
    (.fin (.exit 0) [(7, .int .i64 x_7)]) := by kernel_rfl
def s62 : Script := .ct 3 [0, 1, 6] mx62_1 (.sym (.nd (.ct 1 [0, 6] mx62_4 (.sym .nil (.lp 0 [0, 6] [7, 8] mx62_6 mr62_6 .nil .nil)))) (.ct 1 [0, 6] mx62_14 (.sym .nil (.lp 0 [0, 6] [7, 8] mx62_16 mr62_16 .nil .nil))))
theorem t62 (qs0 : ByteArray) (qb1 : Bool) : fnT Tryz.prog Tryz.f62 #[.string qs0, .bool qb1] s62 =
  .cut (at_ Tryz.f62 [1, 1, 0, 0]) 55 (fx62_1 qs0 qb1) mx62_1 (fun u3 g3 =>
    .br u3.1
      (.need (Decidable.decide (Int.ofNat 0 ≤ 1 ∧ 1 ≤ (↑qs0.size : Int) ∧ (↑qs0.size : Int) ≤ (↑qs0.size : Int)))
        (.cut (at_ Tryz.f62 [1, 1, 1, 0, 0]) 55 (fx62_4 qs0) mx62_4 (fun u5 g5 =>
          .br u5.1
            (.done (.returned (.tuple #[.int .i64 0, .bool false])))
            (.loop (at_ Tryz.f62 [1, 1, 1, 1, 1, 0, 1, 0, 0]) 55 (fx62_6 qs0) [(7, .int .i64 0), (8, .int .i64 0)] mx62_6 mr62_6 0 (fun u12 g12 =>
              .done (.returned (.tuple #[.int .i64 (IntKind.i64.wrap (-1 * u12.fst)), .bool true]))) (fun u13 g13 =>
              .done (.returned (.tuple #[.int .i64 u13.1, .bool u13.2.1])))))))
      (.cut (at_ Tryz.f62 [1, 1, 1, 0, 0]) 55 (fx62_14 qs0) mx62_14 (fun u15 g15 =>
        .br u15.1
          (.done (.returned (.tuple #[.int .i64 0, .bool false])))
          (.loop (at_ Tryz.f62 [1, 1, 1, 1, 1, 0, 1, 0, 0]) 55 (fx62_16 qs0) [(7, .int .i64 0), (8, .int .i64 0)] mx62_16 mr62_16 0 (fun u22 g22 =>
            .done (.returned (.tuple #[.int .i64 (IntKind.i64.wrap (1 * u22.fst)), .bool true]))) (fun u23 g23 =>
            .done (.returned (.tuple #[.int .i64 u23.1, .bool u23.2.1]))))))) := by kernel_rfl
/-! the tree of function 64 -/
def s64 : Script := .sym .nil (.sym .nil (.sym .nil (.sym .nil (.sym .nil (.sym .nil (.sym .nil (.sym .nil (.sym .nil .nil))))))))
theorem t64 (qx0 : Int) : fnT Tryz.prog Tryz.f64 #[.int .i64 qx0] s64 =
  .br (qx0 == 1)
    (.done (.returned (.tuple #[.string (bytesL [112, 105, 99, 107]), .int .i64 2])))
    (.br (qx0 == 2)
      (.done (.returned (.tuple #[.string (bytesL [116, 114, 105, 103, 103, 101, 114]), .int .i64 0])))
      (.br (qx0 == 3)
        (.done (.returned (.tuple #[.string (bytesL [112, 111, 115, 116]), .int .i64 0])))
        (.br (qx0 == 4)
          (.done (.returned (.tuple #[.string (bytesL [97, 98, 111, 114, 116]), .int .i64 0])))
          (.br (qx0 == 5)
            (.done (.returned (.tuple #[.string (bytesL [99, 114, 97, 115, 104]), .int .i64 0])))
            (.br (qx0 == 6)
              (.done (.returned (.tuple #[.string (bytesL [97, 114, 109]), .int .i64 1])))
              (.br (qx0 == 7)
                (.done (.returned (.tuple #[.string (bytesL [102, 97, 105, 108]), .int .i64 1])))
                (.br (qx0 == 8)
                  (.done (.returned (.tuple #[.string (bytesL [115, 112, 111, 105, 108]), .int .i64 2])))
                  (.br (qx0 == 9)
                    (.done (.returned (.tuple #[.string (bytesL [114, 101, 99, 111, 118, 101, 114]), .int .i64 (-1)])))
                    (.done (.returned (.tuple #[.string (bytesL []), .int .i64 0]))))))))))) := by kernel_rfl
/-! the tree of function 63 -/
abbrev fx63_1 (qs0 : ByteArray) : List (Tmp × Value) := [(0, .string qs0)]
abbrev m63_1 : List (Tmp × Comp) := [(3, .leaf (.int .i64))]
abbrev mx63_1 : List (Tmp × Comp) := []
abbrev mr63_1 : List (Tmp × Comp) := [(2, .leaf (.int .i64))]
def s63_1 : Script := .sym (.cl (.tup [.leaf .str, .leaf (.int .i64)]) (.sym .nil .nil)) .nil
theorem t63_1 (qs0 : ByteArray) (x_3 : Int) (g : Nat → Value) : pieceT Tryz.prog (at_ Tryz.f63 [1, 0, 1, 0, 0]) 19 (fx63_1 qs0 ++ mvals m63_1 (x_3, ())) g (m63_1.map (·.1)) (mx63_1.map (·.1)) (mr63_1.map (·.1)) s63_1 =
  .br (Decidable.decide (x_3 ≤ 9))
    (.call 64 #[.int .i64 x_3] (.tup [.leaf .str, .leaf (.int .i64)]) (fun r2 =>
      .br (r2.fst.toList == qs0.toList)
        (.fin .ret [(2, .int .i64 x_3)])
        (.fin .normal [(3, .int .i64 (IntKind.i64.wrap (x_3 + 1)))])))
    (.fin (.exit 0) []) := by kernel_rfl
def s63 : Script := .lp 0 [0] [3] mx63_1 mr63_1 .nil .nil
theorem t63 (qs0 : ByteArray) : fnT Tryz.prog Tryz.f63 #[.string qs0] s63 =
  .loop (at_ Tryz.f63 [1, 0, 1, 0, 0]) 19 (fx63_1 qs0) [(3, .int .i64 1)] mx63_1 mr63_1 0 (fun u3 g3 =>
    .done (.returned (.int .i64 0))) (fun u4 g4 =>
    .done (.returned (.int .i64 u4.1))) := by kernel_rfl


/-- The loop over the digits (sign -1). -/
theorem rnum_loop_6 {R : Ending → World → Prop} {Q : Exit → List (Tmp × Value) → World → Prop} {w : World} {kx : MVars mx62_6 → (Nat → Value) → T} {kr : MVars mr62_6 → (Nat → Value) → T} (qs0 : ByteArray) (d : List UInt8) (hd : (qs0.extract 1 qs0.size).data.toList = d) (hl : d.length ≤ 9)
    (hx : ∀ n g, digM d 0 = some n → n < 1000000000 → wpT Tryz.prog R Q (kx ((n : Int), ()) g) .pl w) (hr : ∀ g, digM d 0 = none → wpT Tryz.prog R Q (kr (0, false, ()) g) .pl w) :
    wpT Tryz.prog R Q (.loop (at_ Tryz.f62 [1, 1, 1, 1, 1, 0, 1, 0, 0]) 55 (fx62_6 qs0) [(7, .int .i64 0), (8, .int .i64 0)] mx62_6 mr62_6 0 kx kr) .pl w := by
  have hsz : (qs0.extract 1 qs0.size).size = d.length := by rw [← hd]; rfl
  refine loop_i mixed m62_6 s62_6 (by kernel_rfl) (by kernel_rfl)
    (fun (v : Int × Int × Unit) w' => w' = w ∧ 0 ≤ v.2.1 ∧ v.2.1 ≤ d.length ∧ 0 ≤ v.1 ∧ v.1 < 10 ^ v.2.1.toNat ∧ digM (d.drop v.2.1.toNat) v.1.toNat = digM d 0) (fun (v : Int × Int × Unit) _ => d.length - v.2.1.toNat) (0, 0, ()) rfl ⟨rfl, by simp, by simp, by simp, by simp, by simp⟩ ?_
  rintro ⟨(n : Int), (i : Int), ⟨⟩⟩ g w4 ⟨rfl, (i0 : 0 ≤ i), (i1 : i ≤ d.length), (n0 : 0 ≤ n), (n1 : n < 10 ^ i.toNat), hs⟩
  rw [t62_6]
  dsimp only at hs
  refine br_both (fun e => ?_) fun e => ?_
  · have hi : i < d.length := by have := lt_t e; omega
    obtain ⟨c0, hc0⟩ : ∃ u, d[i.toNat]? = some u := ⟨_, List.getElem?_eq_getElem (by omega)⟩
    have hdd := digM_drop n.toNat hc0
    have hlt : i.toNat < (qs0.extract 1 qs0.size).size := by omega
    have hbc : (qs0.extract 1 qs0.size)[i.toNat]'hlt = c0 := by
      have h1 : (qs0.extract 1 qs0.size).data.toList[i.toNat]? = some c0 := by rw [hd]; exact hc0
      obtain ⟨_, h2⟩ := List.getElem?_eq_some_iff.1 h1
      exact h2
    refine cut_i mixed s62_7 (fun (v : Bool × Unit) w' => w' = w4 ∧ v.1 = !decide (48 ≤ c0.toNat ∧ c0.toNat ≤ 57)) (by kernel_rfl) (fun g => ?_) ?_
    · rw [t62_7]
      refine bi_i i0 hlt ?_
      rw [hbc]
      refine br_both (fun e => ⟨rfl, (true, ()), rfl, rfl, ?_⟩) fun e => bi_i i0 hlt ?_
      · have e := lt_t e
        rw [decide_eq_false (by omega)]; rfl
      · have e := lt_f e
        rw [hbc]
        refine ⟨rfl, (_, ()), rfl, rfl, ?_⟩
        by_cases h : c0.toNat ≤ 57
        · rw [decide_eq_true (show 48 ≤ c0.toNat ∧ c0.toNat ≤ 57 by omega)]
          exact decide_eq_false (by show ¬ (c0.toNat : Int) > 57; omega)
        · rw [decide_eq_false (show ¬ (48 ≤ c0.toNat ∧ c0.toNat ≤ 57) by omega)]
          exact decide_eq_true (by show (c0.toNat : Int) > 57; omega)
    rintro ⟨u, ⟨⟩⟩ g w5 ⟨rfl, hu⟩
    dsimp only at hu
    subst hu
    refine br_both (fun e => ?_) fun e => ?_
    · have hb : ¬ (48 ≤ c0.toNat ∧ c0.toNat ≤ 57) := fun h => by rw [decide_eq_true h] at e; cases e
      rw [if_neg hb, hs] at hdd
      exact ⟨(0, false, ()), rfl, fun g => hr g hdd⟩
    · have hb : 48 ≤ c0.toNat ∧ c0.toNat ≤ 57 := Decidable.byContradiction fun h => by rw [decide_eq_false h] at e; cases e
      rw [if_pos hb, hs] at hdd
      have hp : (10 : Int) ^ i.toNat ≤ 10 ^ 8 := by
        have := Nat.pow_le_pow_right (n := 10) (by decide) (show i.toNat ≤ 8 by omega)
        exact_mod_cast this
      have e1 : IntKind.i64.wrap (IntKind.i64.wrap (10 * n) + IntKind.i64.wrap (IntKind.u8.wrap ((c0.toNat : Int) - 48))) = 10 * n + ((c0.toNat - 48 : Nat) : Int) := by
        rw [digit_u8 c0 hb, wrap_in (x := 10 * n) (by omega) (by omega), wrap_in (x := ((c0.toNat - 48 : Nat) : Int)) (by omega) (by omega), wrap_in (by omega) (by omega)]
      refine bi_i i0 hlt ?_
      rw [hbc]
      refine ⟨(10 * n + ((c0.toNat - 48 : Nat) : Int), i + 1, ()), ?_, ⟨rfl, by dsimp only; omega, by dsimp only; omega, by dsimp only; omega, ?_, ?_⟩, by dsimp only; omega⟩
      · rw [e1, wrap_succ i0 (by omega)]; rfl
      · dsimp only
        rw [show (i + 1).toNat = i.toNat + 1 by omega, Int.pow_succ]
        omega
      · dsimp only
        rw [show (i + 1).toNat = i.toNat + 1 by omega, hdd]
        congr 1
        omega
  · have hi : d.length ≤ i := by have := lt_f e; omega
    rw [List.drop_of_length_le (by omega)] at hs
    have hs : some n.toNat = digM d 0 := hs
    have hp : (10 : Int) ^ i.toNat ≤ 10 ^ 9 := by
      have := Nat.pow_le_pow_right (n := 10) (by decide) (show i.toNat ≤ 9 by omega)
      exact_mod_cast this
    obtain ⟨m, rfl⟩ : ∃ m : Nat, n = m := ⟨n.toNat, by omega⟩
    exact ⟨rfl, ((m : Int), ()), rfl, fun g => hx m g hs.symm (by omega)⟩

/-- The loop over the digits (sign 1). -/
theorem rnum_loop_16 {R : Ending → World → Prop} {Q : Exit → List (Tmp × Value) → World → Prop} {w : World} {kx : MVars mx62_16 → (Nat → Value) → T} {kr : MVars mr62_16 → (Nat → Value) → T} (qs0 : ByteArray) (d : List UInt8) (hd : (qs0).data.toList = d) (hl : d.length ≤ 9)
    (hx : ∀ n g, digM d 0 = some n → n < 1000000000 → wpT Tryz.prog R Q (kx ((n : Int), ()) g) .pl w) (hr : ∀ g, digM d 0 = none → wpT Tryz.prog R Q (kr (0, false, ()) g) .pl w) :
    wpT Tryz.prog R Q (.loop (at_ Tryz.f62 [1, 1, 1, 1, 1, 0, 1, 0, 0]) 55 (fx62_16 qs0) [(7, .int .i64 0), (8, .int .i64 0)] mx62_16 mr62_16 0 kx kr) .pl w := by
  have hsz : (qs0).size = d.length := by rw [← hd]; rfl
  refine loop_i mixed m62_16 s62_16 (by kernel_rfl) (by kernel_rfl)
    (fun (v : Int × Int × Unit) w' => w' = w ∧ 0 ≤ v.2.1 ∧ v.2.1 ≤ d.length ∧ 0 ≤ v.1 ∧ v.1 < 10 ^ v.2.1.toNat ∧ digM (d.drop v.2.1.toNat) v.1.toNat = digM d 0) (fun (v : Int × Int × Unit) _ => d.length - v.2.1.toNat) (0, 0, ()) rfl ⟨rfl, by simp, by simp, by simp, by simp, by simp⟩ ?_
  rintro ⟨(n : Int), (i : Int), ⟨⟩⟩ g w4 ⟨rfl, (i0 : 0 ≤ i), (i1 : i ≤ d.length), (n0 : 0 ≤ n), (n1 : n < 10 ^ i.toNat), hs⟩
  rw [t62_16]
  dsimp only at hs
  refine br_both (fun e => ?_) fun e => ?_
  · have hi : i < d.length := by have := lt_t e; omega
    obtain ⟨c0, hc0⟩ : ∃ u, d[i.toNat]? = some u := ⟨_, List.getElem?_eq_getElem (by omega)⟩
    have hdd := digM_drop n.toNat hc0
    have hlt : i.toNat < (qs0).size := by omega
    have hbc : (qs0)[i.toNat]'hlt = c0 := by
      have h1 : (qs0).data.toList[i.toNat]? = some c0 := by rw [hd]; exact hc0
      obtain ⟨_, h2⟩ := List.getElem?_eq_some_iff.1 h1
      exact h2
    refine cut_i mixed s62_17 (fun (v : Bool × Unit) w' => w' = w4 ∧ v.1 = !decide (48 ≤ c0.toNat ∧ c0.toNat ≤ 57)) (by kernel_rfl) (fun g => ?_) ?_
    · rw [t62_17]
      refine bi_i i0 hlt ?_
      rw [hbc]
      refine br_both (fun e => ⟨rfl, (true, ()), rfl, rfl, ?_⟩) fun e => bi_i i0 hlt ?_
      · have e := lt_t e
        rw [decide_eq_false (by omega)]; rfl
      · have e := lt_f e
        rw [hbc]
        refine ⟨rfl, (_, ()), rfl, rfl, ?_⟩
        by_cases h : c0.toNat ≤ 57
        · rw [decide_eq_true (show 48 ≤ c0.toNat ∧ c0.toNat ≤ 57 by omega)]
          exact decide_eq_false (by show ¬ (c0.toNat : Int) > 57; omega)
        · rw [decide_eq_false (show ¬ (48 ≤ c0.toNat ∧ c0.toNat ≤ 57) by omega)]
          exact decide_eq_true (by show (c0.toNat : Int) > 57; omega)
    rintro ⟨u, ⟨⟩⟩ g w5 ⟨rfl, hu⟩
    dsimp only at hu
    subst hu
    refine br_both (fun e => ?_) fun e => ?_
    · have hb : ¬ (48 ≤ c0.toNat ∧ c0.toNat ≤ 57) := fun h => by rw [decide_eq_true h] at e; cases e
      rw [if_neg hb, hs] at hdd
      exact ⟨(0, false, ()), rfl, fun g => hr g hdd⟩
    · have hb : 48 ≤ c0.toNat ∧ c0.toNat ≤ 57 := Decidable.byContradiction fun h => by rw [decide_eq_false h] at e; cases e
      rw [if_pos hb, hs] at hdd
      have hp : (10 : Int) ^ i.toNat ≤ 10 ^ 8 := by
        have := Nat.pow_le_pow_right (n := 10) (by decide) (show i.toNat ≤ 8 by omega)
        exact_mod_cast this
      have e1 : IntKind.i64.wrap (IntKind.i64.wrap (10 * n) + IntKind.i64.wrap (IntKind.u8.wrap ((c0.toNat : Int) - 48))) = 10 * n + ((c0.toNat - 48 : Nat) : Int) := by
        rw [digit_u8 c0 hb, wrap_in (x := 10 * n) (by omega) (by omega), wrap_in (x := ((c0.toNat - 48 : Nat) : Int)) (by omega) (by omega), wrap_in (by omega) (by omega)]
      refine bi_i i0 hlt ?_
      rw [hbc]
      refine ⟨(10 * n + ((c0.toNat - 48 : Nat) : Int), i + 1, ()), ?_, ⟨rfl, by dsimp only; omega, by dsimp only; omega, by dsimp only; omega, ?_, ?_⟩, by dsimp only; omega⟩
      · rw [e1, wrap_succ i0 (by omega)]; rfl
      · dsimp only
        rw [show (i + 1).toNat = i.toNat + 1 by omega, Int.pow_succ]
        omega
      · dsimp only
        rw [show (i + 1).toNat = i.toNat + 1 by omega, hdd]
        congr 1
        omega
  · have hi : d.length ≤ i := by have := lt_f e; omega
    rw [List.drop_of_length_le (by omega)] at hs
    have hs : some n.toNat = digM d 0 := hs
    have hp : (10 : Int) ^ i.toNat ≤ 10 ^ 9 := by
      have := Nat.pow_le_pow_right (n := 10) (by decide) (show i.toNat ≤ 9 by omega)
      exact_mod_cast this
    obtain ⟨m, rfl⟩ : ∃ m : Nat, n = m := ⟨n.toNat, by omega⟩
    exact ⟨rfl, ((m : Int), ()), rfl, fun g => hx m g hs.symm (by omega)⟩

theorem numM_neg (d : List UInt8) : numM true (45 :: d) = numW true d := by
  unfold numM
  dsimp only
  rw [if_pos ⟨rfl, rfl⟩]
theorem numM_pos {sg : Bool} {w : List UInt8} (h : ¬ (sg = true ∧ ∃ t, w = 45 :: t)) : numM sg w = numW false w := by
  cases w with
  | nil => rfl
  | cons c t =>
    unfold numM
    dsimp only
    rw [if_neg (fun e => h ⟨e.1, t, by rw [e.2]⟩)]
theorem rnumber_any (s : ByteArray) (sg : Bool) (w : World) :
    Calls Tryz.prog 62 #[.string s, .bool sg] w fun e w' => e = .returned (.tuple #[.int .i64 ((numM sg s.data.toList).getD 0), .bool (numM sg s.data.toList).isSome]) ∧ w' = w := by
  refine calls_of_fnT mixed Tryz.func62 (s := s62) ?_
  rw [t62]
  have hsl : s.toList = s.data.toList := ByteArray.toList_eq s
  refine cut_i mixed s62_1 (fun (v : Bool × Unit) w' => w' = w ∧ (v.1 = true ↔ sg = true ∧ ∃ t, s.data.toList = 45 :: t)) (by kernel_rfl) (fun g => ?_) ?_
  · rw [t62_1, hsl, tb_nil]
    refine br_both (fun e => br_both (fun e2 => ?_) fun e2 => ⟨rfl, (_, ()), rfl, rfl, ?_⟩) fun e => ⟨rfl, (_, ()), rfl, rfl, ?_⟩
    · cases hd : s.data.toList with
      | nil => rw [hd] at e2; cases e2
      | cons c t =>
        have hz : 0 < s.size := by show 0 < s.data.toList.length; rw [hd]; simp
        have hc : s[(0 : Int).toNat]'hz = c := by
          have h1 : s.data.toList[0]? = some c := by rw [hd]; rfl
          obtain ⟨_, h2⟩ := List.getElem?_eq_some_iff.1 h1
          exact h2
        refine bi_i (by decide) hz ⟨rfl, (_, ()), rfl, rfl, ?_⟩
        dsimp only
        rw [hc]
        constructor
        · intro h
          have : (c.toNat : Int) = 45 := eq_t h
          have : c = 45 := UInt8.toNat_inj.1 (by show c.toNat = 45; omega)
          exact ⟨e, t, by rw [this]⟩
        · rintro ⟨_, t', h⟩
          cases h
          rfl
    · cases hd : s.data.toList with
      | nil => exact ⟨fun h => (by cases h), fun h => (by obtain ⟨_, _, h⟩ := h; cases h)⟩
      | cons c t => rw [hd] at e2; cases e2
    · exact ⟨fun h => (by cases h), fun h => (by rw [h.1] at e; cases e)⟩
  rintro ⟨v, ⟨⟩⟩ g w1 ⟨rfl, hv⟩
  dsimp only at hv
  refine br_both (fun e => ?_) fun e => ?_
  · obtain ⟨rfl, d, hd⟩ := hv.1 e
    have hz : s.size = d.length + 1 := by show s.data.toList.length = _; rw [hd]; simp
    have hx : (s.extract 1 s.size).data.toList = d := by
      rw [ByteArray.data_extract, Array.toList_extract, List.extract_eq_take_drop, hd]
      simp [hz]
    have hxl : (s.extract 1 s.size).toList = d := by rw [ByteArray.toList_eq, hx]
    have hxz : (s.extract 1 s.size).size = d.length := by rw [← hx]; rfl
    rw [hd, numM_neg]
    refine nd_i (decide_eq_true ⟨by decide, by show (1 : Int) ≤ (s.size : Int); omega, Int.le_refl _⟩) ?_
    refine cut_i mixed s62_4 (fun (v : Bool × Unit) w' => w' = w1 ∧ v.1 = decide (d.length < 1 ∨ 9 < d.length)) (by kernel_rfl) (fun g => ?_) ?_
    · rw [t62_4, hxl, tb_nil]
      refine br_both (fun e => ⟨rfl, (_, ()), rfl, rfl, ?_⟩) fun e => ⟨rfl, (_, ()), rfl, rfl, ?_⟩
      · have : d = [] := eq_of_beq e
        subst this; rfl
      · have : d ≠ [] := fun h => by subst h; cases e
        have hp : 1 ≤ d.length := by cases d with | nil => exact absurd rfl this | cons _ _ => simp
        exact decide_eq_decide.2 ⟨fun h => .inr (by have h : (9 : Int) < ((s.extract 1 s.size).size : Int) := h; omega), fun h => by show (9 : Int) < ((s.extract 1 s.size).size : Int); omega⟩
    rintro ⟨u, ⟨⟩⟩ g w2 ⟨rfl, hu⟩
    dsimp only at hu
    subst hu
    unfold numW
    refine br_both (fun e => ?_) fun e => ?_
    · rw [if_pos (of_decide_eq_true e)]
      exact ⟨rfl, rfl⟩
    have hl := of_decide_eq_false e
    rw [if_neg hl]
    refine rnum_loop_6 s d hx (by omega) (fun n g hn hlt => ?_) (fun g hn => ?_)
    · rw [hn]
      refine ⟨?_, rfl⟩
      show Ending.returned (.tuple #[.int .i64 (IntKind.i64.wrap (-1 * (n : Int))), .bool true]) = _
      rw [wrap_in (by omega) (by omega), show -1 * (n : Int) = -(n : Int) by omega]
      rfl
    · rw [hn]; exact ⟨rfl, rfl⟩
  · have hnv : ¬ (sg = true ∧ ∃ t, s.data.toList = 45 :: t) := fun h => by rw [hv.2 h] at e; cases e
    rw [numM_pos hnv]
    generalize hd : s.data.toList = d at *
    have hz : s.size = d.length := by rw [← hd]; rfl
    refine cut_i mixed s62_14 (fun (v : Bool × Unit) w' => w' = w1 ∧ v.1 = decide (d.length < 1 ∨ 9 < d.length)) (by kernel_rfl) (fun g => ?_) ?_
    · rw [t62_14, hsl, tb_nil]
      refine br_both (fun e => ⟨rfl, (_, ()), rfl, rfl, ?_⟩) fun e => ⟨rfl, (_, ()), rfl, rfl, ?_⟩
      · have : d = [] := eq_of_beq e
        rw [this]; rfl
      · have : d ≠ [] := fun h => by rw [h] at e; cases e
        have hp : 1 ≤ d.length := by
          cases hdd : d with
          | nil => exact absurd hdd this
          | cons _ _ => simp
        exact decide_eq_decide.2 ⟨fun h => .inr (by have h : (9 : Int) < (s.size : Int) := h; omega), fun h => by show (9 : Int) < (s.size : Int); omega⟩
    rintro ⟨u, ⟨⟩⟩ g w2 ⟨rfl, hu⟩
    dsimp only at hu
    subst hu
    unfold numW
    refine br_both (fun e => ?_) fun e => ?_
    · rw [if_pos (of_decide_eq_true e)]
      exact ⟨rfl, rfl⟩
    have hl := of_decide_eq_false e
    rw [if_neg hl]
    refine rnum_loop_16 s d hd (by omega) (fun n g hn hlt => ?_) (fun g hn => ?_)
    · rw [hn]
      refine ⟨?_, rfl⟩
      show Ending.returned (.tuple #[.int .i64 (IntKind.i64.wrap (1 * (n : Int))), .bool true]) = _
      rw [wrap_in (by omega) (by omega), show 1 * (n : Int) = (n : Int) by omega]
      rfl
    · rw [hn]; exact ⟨rfl, rfl⟩
theorem rplain_any (k : Int) (w : World) : Calls Tryz.prog 64 #[.int .i64 k] w fun e w' => w' = w ∧ e = .returned (.tuple #[.string (bytesL (if 1 ≤ k ∧ k ≤ 9 then stepWord k.toNat else [])), .int .i64 (if 1 ≤ k ∧ k ≤ 9 then numbersM k.toNat else 0)]) := by
  refine calls_of_fnT mixed Tryz.func64 (s := s64) ?_
  rw [t64]
  have key : ∀ m : Int, 1 ≤ m ∧ m ≤ 9 → (k == m) = true → k = m ∧ (1 ≤ k ∧ k ≤ 9) := fun m hm e => by
    have := eq_t e
    subst this
    exact ⟨rfl, hm⟩
  have no : ∀ m : Int, (k == m) = false → k ≠ m := fun m e => eq_f e
  refine br_both (fun e => ?_) fun e1 => br_both (fun e => ?_) fun e2 => br_both (fun e => ?_) fun e3 => br_both (fun e => ?_) fun e4 => br_both (fun e => ?_) fun e5 => br_both (fun e => ?_) fun e6 => br_both (fun e => ?_) fun e7 => br_both (fun e => ?_) fun e8 => br_both (fun e => ?_) fun e9 => ?_
  · obtain ⟨rfl, h⟩ := key 1 (by decide) e; exact ⟨rfl, rfl⟩
  · obtain ⟨rfl, h⟩ := key 2 (by decide) e; exact ⟨rfl, rfl⟩
  · obtain ⟨rfl, h⟩ := key 3 (by decide) e; exact ⟨rfl, rfl⟩
  · obtain ⟨rfl, h⟩ := key 4 (by decide) e; exact ⟨rfl, rfl⟩
  · obtain ⟨rfl, h⟩ := key 5 (by decide) e; exact ⟨rfl, rfl⟩
  · obtain ⟨rfl, h⟩ := key 6 (by decide) e; exact ⟨rfl, rfl⟩
  · obtain ⟨rfl, h⟩ := key 7 (by decide) e; exact ⟨rfl, rfl⟩
  · obtain ⟨rfl, h⟩ := key 8 (by decide) e; exact ⟨rfl, rfl⟩
  · obtain ⟨rfl, h⟩ := key 9 (by decide) e; exact ⟨rfl, rfl⟩
  · have h1 := no 1 e1; have h2 := no 2 e2; have h3 := no 3 e3; have h4 := no 4 e4; have h5 := no 5 e5; have h6 := no 6 e6; have h7 := no 7 e7; have h8 := no 8 e8; have h9 := no 9 e9
    have hn : ¬ (1 ≤ k ∧ k ≤ 9) := by omega
    rw [if_neg hn, if_neg hn]
    exact ⟨rfl, rfl⟩
theorem rkind_any (s : ByteArray) (W : List UInt8) (hs : s = bytesL W) (w : World) : Calls Tryz.prog 63 #[.string s] w fun e w' => w' = w ∧ e = .returned (.int .i64 (kindM W)) := by
  subst hs
  refine calls_of_fnT mixed Tryz.func63 (s := s63) ?_
  rw [t63]
  have hk9 := kind_le W
  refine loop_i mixed m63_1 s63_1 (by kernel_rfl) (by kernel_rfl)
    (fun (v : Int × Unit) w' => w' = w ∧ 1 ≤ v.1 ∧ v.1 ≤ 10 ∧ (kindM W = 0 ∨ v.1 ≤ kindM W)) (fun (v : Int × Unit) _ => 10 - v.1.toNat) (1, ()) rfl ⟨rfl, by simp, by simp, by dsimp only; omega⟩ ?_
  rintro ⟨(i : Int), ⟨⟩⟩ g w1 ⟨rfl, (i0 : 1 ≤ i), (i1 : i ≤ 10), (hk : kindM W = 0 ∨ i ≤ kindM W)⟩
  rw [t63_1]
  refine br_both (fun e => ?_) fun e => ?_
  · have hi : i ≤ 9 := le_t e
    refine cl_i (rplain_any i w1) ?_
    rintro e w2 ⟨rfl, rfl⟩
    have h19 : 1 ≤ i ∧ i ≤ 9 := ⟨i0, hi⟩
    rw [if_pos h19, if_pos h19]
    refine ⟨(_, _, ()), rfl, ?_⟩
    obtain ⟨hsw, _⟩ := step_word i.toNat (by omega) (by omega)
    have hki := kind_iff W i.toNat (by omega) (by omega) _ hsw
    dsimp only at hki ⊢
    rw [tb_list, tb_list]
    refine br_both (fun e => ?_) fun e => ?_
    · have hk := hki.1 (eq_of_beq e)
      refine ⟨(i, ()), rfl, fun g => ⟨rfl, ?_⟩⟩
      rw [hk]
      show Ending.returned (.int .i64 i) = .returned (.int .i64 _)
      congr 2; omega
    · have hk' : kindM W ≠ i.toNat := fun h => by
        rw [hki.2 h] at e
        simp at e
      refine ⟨(i + 1, ()), ?_, ⟨rfl, by dsimp only; omega, by dsimp only; omega, by dsimp only; omega⟩, by dsimp only; omega⟩
      rw [wrap_succ (by omega) (by omega)]; rfl
  · have hi : 9 < i := le_f e
    refine ⟨rfl, (), rfl, fun g => ⟨rfl, ?_⟩⟩
    have : kindM W = 0 := by omega
    rw [this]; rfl
end Go.Proofs.YtjlmkahagcojcaaGreatDoor
