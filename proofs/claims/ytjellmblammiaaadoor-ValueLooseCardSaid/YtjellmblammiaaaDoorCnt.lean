/- The law's own count of a value's parts: clean gives what valid gives; Encode's answer. -/
import Derived.Test.YtjellmblammiaaaDoorOrd
import Derived.Test.YtjellmblammiaaaDoorByt
namespace Go.Proofs.YtjellmblammiaaaDoor
open Go Tr
open Go.Lib (byteCells strCells)
set_option maxRecDepth 100000
/-! the tree of function 16 -/
abbrev fx16_2 (qx1 : Int) (n1 : Nat) : List (Tmp × Value) := [(1, .int .i64 qx1), (2, .pointer (some ⟨n1, 0, none⟩))]
abbrev mx16_2 : List (Tmp × Comp) := [(35, .leaf .bool)]
def s16_2 : Script := .ld (.int .i64) (.sym (.lit (.lit (.lit (.lit (.lit (.lit (.lit (.lit (.lit (.lit (.lit (.lit (.lit (.lit (.lit (.lit (.lit (.lit (.lit .nil))))))))))))))))))) (.lit (.ld (.int .i64) (.lit (.lit (.sym (.lit (.lit (.lit (.lit (.lit (.lit (.lit (.lit (.lit (.lit (.lit (.lit (.lit (.lit (.lit .nil))))))))))))))) (.lit (.ld (.int .i64) (.lit (.lit (.sym (.lit (.lit (.lit (.lit (.sym (.lit (.lit (.lit (.lit (.lit (.lit (.lit (.lit (.lit .nil))))))))) (.lit (.ld .sl (.lit (.lit (.lit (.sym (.lit (.lit (.lit (.lit .nil)))) (.lit (.ld .str (.lit (.lit (.lit .nil)))))))))))))))) (.lit (.lit (.lit (.lit (.lit (.lit (.ld .sl (.lit (.lit (.lit (.sym (.lit (.lit (.lit (.lit .nil)))) (.lit (.ld .str (.lit (.lit (.lit .nil)))))))))))))))))))))))))))
theorem t16_2 (qx1 : Int) (n1 : Nat) (g : Nat → Value) : pieceT Tryd.prog (at_ Tryd.f16 [1, 0, 0]) 83 (fx16_2 qx1 n1) g (mx16_2.map (·.1)) [] [] s16_2 =
  .load ⟨n1, 0, none⟩ (.int .i64) (fun x3 =>
    .br (Decidable.decide (x3 < 0))
      (.fin .normal [(35, .bool true)])
      (.load ⟨n1, 0, none⟩ (.int .i64) (fun x4 =>
        .br (Decidable.decide (x4 > 3))
          (.fin .normal [(35, .bool true)])
          (.load ⟨n1, 0, none⟩ (.int .i64) (fun x5 =>
            .br (x5 == 3)
              (.br (Decidable.decide (qx1 ≥ 3))
                (.fin .normal [(35, .bool true)])
                (.load ⟨n1, 3, none⟩ .sl (fun l6 =>
                  .br (Decidable.decide ((↑l6.snd.fst : Int) > 6))
                    (.fin .normal [(35, .bool true)])
                    (.load ⟨n1, 2, none⟩ .str (fun s7 =>
                      .fin .normal [(35, .bool (Decidable.decide ((↑s7.size : Int) > 24)))])))))
              (.load ⟨n1, 3, none⟩ .sl (fun l8 =>
                .br (Decidable.decide ((↑l8.snd.fst : Int) > 6))
                  (.fin .normal [(35, .bool true)])
                  (.load ⟨n1, 2, none⟩ .str (fun s9 =>
                    .fin .normal [(35, .bool (Decidable.decide ((↑s9.size : Int) > 24)))]))))))))) := by kernel_rfl
abbrev fx16_11 (qx1 : Int) (n1 : Nat) : List (Tmp × Value) := [(1, .int .i64 qx1), (2, .pointer (some ⟨n1, 0, none⟩))]
abbrev mx16_11 : List (Tmp × Comp) := [(64, .leaf .bool)]
def s16_11 : Script := .ld (.int .i64) (.sym (.lit (.ld (.int .i64) (.lit (.lit (.sym (.lit (.lit (.lit (.lit (.lit (.lit (.lit (.lit (.lit (.lit (.lit (.lit .nil)))))))))))) (.lit (.ld .str (.lit (.lit (.sym (.lit (.ld (.int .i64) (.lit (.lit (.lit (.lit (.sym (.lit (.lit (.lit (.lit (.lit (.lit .nil)))))) (.lit (.ld .sl (.lit (.lit (.lit (.sym (.lit (.ld (.int .i64) (.lit (.lit (.lit (.lit .nil)))))) (.lit (.lit (.lit (.lit (.lit .nil)))))))))))))))))) (.lit (.lit (.lit (.lit (.lit (.lit (.lit (.ld .sl (.lit (.lit (.lit (.sym (.lit (.ld (.int .i64) (.lit (.lit (.lit (.lit .nil)))))) (.lit (.lit (.lit (.lit (.lit .nil))))))))))))))))))))))))))) (.lit (.lit (.lit (.lit (.lit (.ld .str (.lit (.lit (.sym (.lit (.ld (.int .i64) (.lit (.lit (.lit (.lit (.sym (.lit (.lit (.lit (.lit (.lit (.lit .nil)))))) (.lit (.ld .sl (.lit (.lit (.lit (.sym (.lit (.ld (.int .i64) (.lit (.lit (.lit (.lit .nil)))))) (.lit (.lit (.lit (.lit (.lit .nil)))))))))))))))))) (.lit (.lit (.lit (.lit (.lit (.lit (.lit (.ld .sl (.lit (.lit (.lit (.sym (.lit (.ld (.int .i64) (.lit (.lit (.lit (.lit .nil)))))) (.lit (.lit (.lit (.lit (.lit .nil)))))))))))))))))))))))))))
theorem t16_11 (qx1 : Int) (n1 : Nat) (g : Nat → Value) : pieceT Tryd.prog (at_ Tryd.f16 [1, 1, 0, 0]) 83 (fx16_11 qx1 n1) g (mx16_11.map (·.1)) [] [] s16_11 =
  .load ⟨n1, 1, none⟩ (.int .i64) (fun x12 =>
    .br (x12 != 0)
      (.load ⟨n1, 0, none⟩ (.int .i64) (fun x13 =>
        .br (x13 != 1)
          (.fin .normal [(64, .bool true)])
          (.load ⟨n1, 2, none⟩ .str (fun s14 =>
            .br (!s14.toList == (bytesL []).toList)
              (.load ⟨n1, 0, none⟩ (.int .i64) (fun x15 =>
                .br (x15 != 2)
                  (.fin .normal [(64, .bool true)])
                  (.load ⟨n1, 3, none⟩ .sl (fun l16 =>
                    .br (Decidable.decide ((↑l16.snd.fst : Int) > 0))
                      (.load ⟨n1, 0, none⟩ (.int .i64) (fun x17 =>
                        .fin .normal [(64, .bool (x17 != 3))]))
                      (.fin .normal [(64, .bool false)])))))
              (.load ⟨n1, 3, none⟩ .sl (fun l18 =>
                .br (Decidable.decide ((↑l18.snd.fst : Int) > 0))
                  (.load ⟨n1, 0, none⟩ (.int .i64) (fun x19 =>
                    .fin .normal [(64, .bool (x19 != 3))]))
                  (.fin .normal [(64, .bool false)])))))))
      (.load ⟨n1, 2, none⟩ .str (fun s20 =>
        .br (!s20.toList == (bytesL []).toList)
          (.load ⟨n1, 0, none⟩ (.int .i64) (fun x21 =>
            .br (x21 != 2)
              (.fin .normal [(64, .bool true)])
              (.load ⟨n1, 3, none⟩ .sl (fun l22 =>
                .br (Decidable.decide ((↑l22.snd.fst : Int) > 0))
                  (.load ⟨n1, 0, none⟩ (.int .i64) (fun x23 =>
                    .fin .normal [(64, .bool (x23 != 3))]))
                  (.fin .normal [(64, .bool false)])))))
          (.load ⟨n1, 3, none⟩ .sl (fun l24 =>
            .br (Decidable.decide ((↑l24.snd.fst : Int) > 0))
              (.load ⟨n1, 0, none⟩ (.int .i64) (fun x25 =>
                .fin .normal [(64, .bool (x25 != 3))]))
              (.fin .normal [(64, .bool false)])))))) := by kernel_rfl
abbrev fx16_27 (qx1 : Int) (n1 : Nat) (g26 : Nat → Value) : List (Tmp × Value) := [(1, .int .i64 qx1), (2, .pointer (some ⟨n1, 0, none⟩)), (4, g26 4)]
abbrev m16_27 : List (Tmp × Comp) := [(5, .leaf (.int .i64)), (6, .leaf (.int .i64))]
abbrev mx16_27 : List (Tmp × Comp) := [(5, .leaf (.int .i64))]
abbrev mr16_27 : List (Tmp × Comp) := []
def s16_27 : Script := .ld .sl (.sym (.ld .sl (.ix (.ld (.int .i64) (.ld (.int .i64) (.ld .str (.ld .sl (.cl (.one (.leaf (.int .i64))) .nil))))))) .nil)
theorem t16_27 (qx1 : Int) (n1 : Nat) (g26 : Nat → Value) (x_5 : Int) (x_6 : Int) (g : Nat → Value) : pieceT Tryd.prog (at_ Tryd.f16 [1, 1, 1, 1, 0, 1, 0, 0]) 83 (fx16_27 qx1 n1 g26 ++ mvals m16_27 (x_5, x_6, ())) g (m16_27.map (·.1)) (mx16_27.map (·.1)) (mr16_27.map (·.1)) s16_27 =
  .load ⟨n1, 3, none⟩ .sl (fun l28 =>
    .br (Decidable.decide (x_6 < (↑l28.snd.fst : Int)))
      (.load ⟨n1, 3, none⟩ .sl (fun l29 =>
        .idx l29.1 x_6 l29.2.1 4 (fun a30 =>
          .load a30 (.int .i64) (fun x31 =>
            .load (a30.add 1) (.int .i64) (fun x32 =>
              .load (a30.add 2) .str (fun s33 =>
                .load (a30.add 3) .sl (fun l34 =>
                  .call 16 #[.agg #[.int .i64 x31, .int .i64 x32, .string s33, .slice l34.1 l34.2.1 l34.2.2], .int .i64 (IntKind.i64.wrap (qx1 + 1))] (.one (.leaf (.int .i64))) (fun x35 =>
                    .fin .normal [(5, .int .i64 (IntKind.i64.wrap (x_5 + x35))), (6, .int .i64 (IntKind.i64.wrap (x_6 + 1)))]))))))))
      (.fin (.exit 0) [(5, .int .i64 x_5)])) := by kernel_rfl
def s16 : Script := .ct 2 [1, 2] mx16_2 (.sym .nil (.ct 1 [1, 2] mx16_11 (.sym .nil (.lp 0 [1, 2, 4] [5, 6] mx16_27 mr16_27 .nil .nil))))
theorem t16 (qx0_0 : Int) (qx0_1 : Int) (qs0_2 : ByteArray) (qa0_3 : Option Addr) (qn0_3 : Nat) (qc0_3 : Nat) (qx1 : Int) : fnT Tryd.prog Tryd.f16 #[.agg #[.int .i64 qx0_0, .int .i64 qx0_1, .string qs0_2, .slice qa0_3 qn0_3 qc0_3], .int .i64 qx1] s16 =
  .new (.cells #[.int .i64 qx0_0, .int .i64 qx0_1, .string qs0_2, .slice qa0_3 qn0_3 qc0_3] 24 (0, 0)) (fun n1 =>
    .cut (at_ Tryd.f16 [1, 0, 0]) 83 (fx16_2 qx1 n1) mx16_2 (fun u10 g10 =>
      .br u10.1
        (.done (.returned (.int .i64 1000000)))
        (.cut (at_ Tryd.f16 [1, 1, 0, 0]) 83 (fx16_11 qx1 n1) mx16_11 (fun u26 g26 =>
          .br u26.1
            (.done (.returned (.int .i64 1000000)))
            (.loop (at_ Tryd.f16 [1, 1, 1, 1, 0, 1, 0, 0]) 83 (fx16_27 qx1 n1 g26) [(5, .int .i64 1), (6, .int .i64 0)] mx16_27 mr16_27 0 (fun u36 g36 =>
              .done (.returned (.int .i64 u36.1))) (fun u37 g37 =>
              .stuck)))))) := by kernel_rfl
/-! the tree of function 17 -/
def s17 : Script := .ld (.int .i64) (.ld (.int .i64) (.ld .str (.ld .sl (.cl (.one (.leaf (.int .i64))) (.sym (.ld (.int .i64) (.ld (.int .i64) (.ld .str (.ld .sl .nil)))) (.ld (.int .i64) (.ld (.int .i64) (.ld .str (.ld .sl (.ld (.int .i64) (.ld (.int .i64) (.ld .str (.ld .sl .nil)))))))))))))
theorem t17 (qx0_0 : Int) (qx0_1 : Int) (qs0_2 : ByteArray) (qa0_3 : Option Addr) (qn0_3 : Nat) (qc0_3 : Nat) : fnT Tryd.prog Tryd.f17 #[.agg #[.int .i64 qx0_0, .int .i64 qx0_1, .string qs0_2, .slice qa0_3 qn0_3 qc0_3]] s17 =
  .new (.cells #[.int .i64 qx0_0, .int .i64 qx0_1, .string qs0_2, .slice qa0_3 qn0_3 qc0_3] 24 (0, 0)) (fun n1 =>
    .new (.cells #[.int .i64 0, .int .i64 0, .string (bytesL []), .slice none 0 0] 24 (0, 0)) (fun n2 =>
      .load ⟨n1, 0, none⟩ (.int .i64) (fun x3 =>
        .load ⟨n1, 1, none⟩ (.int .i64) (fun x4 =>
          .load ⟨n1, 2, none⟩ .str (fun s5 =>
            .load ⟨n1, 3, none⟩ .sl (fun l6 =>
              .call 16 #[.agg #[.int .i64 x3, .int .i64 x4, .string s5, .slice l6.1 l6.2.1 l6.2.2], .int .i64 0] (.one (.leaf (.int .i64))) (fun x7 =>
                .br (Decidable.decide (x7 > 12))
                  (.store ⟨n2, 0, none⟩ (.int .i64 0)
                    (.store ⟨n2, 1, none⟩ (.int .i64 0)
                      (.store ⟨n2, 2, none⟩ (.string (bytesL []))
                        (.store ⟨n2, 3, none⟩ (.slice none 0 0)
                          (.load ⟨n2, 0, none⟩ (.int .i64) (fun x8 =>
                            .load ⟨n2, 1, none⟩ (.int .i64) (fun x9 =>
                              .load ⟨n2, 2, none⟩ .str (fun s10 =>
                                .load ⟨n2, 3, none⟩ .sl (fun l11 =>
                                  .done (.returned (.agg #[.int .i64 x8, .int .i64 x9, .string s10, .slice l11.1 l11.2.1 l11.2.2])))))))))))
                  (.load ⟨n1, 0, none⟩ (.int .i64) (fun x12 =>
                    .load ⟨n1, 1, none⟩ (.int .i64) (fun x13 =>
                      .load ⟨n1, 2, none⟩ .str (fun s14 =>
                        .load ⟨n1, 3, none⟩ .sl (fun l15 =>
                          .store ⟨n2, 0, none⟩ (.int .i64 x12)
                            (.store ⟨n2, 1, none⟩ (.int .i64 x13)
                              (.store ⟨n2, 2, none⟩ (.string s14)
                                (.store ⟨n2, 3, none⟩ (.slice l15.1 l15.2.1 l15.2.2)
                                  (.load ⟨n2, 0, none⟩ (.int .i64) (fun x16 =>
                                    .load ⟨n2, 1, none⟩ (.int .i64) (fun x17 =>
                                      .load ⟨n2, 2, none⟩ .str (fun s18 =>
                                        .load ⟨n2, 3, none⟩ .sl (fun l19 =>
                                          .done (.returned (.agg #[.int .i64 x16, .int .i64 x17, .string s18, .slice l19.1 l19.2.1 l19.2.2])))))))))))))))))))))) := by kernel_rfl


mutual
def countV (deep : Int) : VT → Int
  | .mk k i s l =>
    if k < 0 ∨ k > 3 ∨ (k = 3 ∧ deep ≥ 3) ∨ l.length > 6 ∨ s.size > 24 then 1000000
    else if (i ≠ 0 ∧ k ≠ 1) ∨ (s.toList ≠ [] ∧ k ≠ 2) ∨ (0 < l.length ∧ k ≠ 3) then 1000000
    else countL (deep + 1) 1 l
def countL (deep n : Int) : List VT → Int
  | [] => n
  | x :: r => countL deep (n + countV deep x) r
end
theorem countV_def (deep : Int) (x : VT) : countV deep x = (if x.kind < 0 ∨ x.kind > 3 ∨ (x.kind = 3 ∧ deep ≥ 3) ∨ x.items.length > 6 ∨ x.text.size > 24 then 1000000
    else if (x.int ≠ 0 ∧ x.kind ≠ 1) ∨ (x.text.toList ≠ [] ∧ x.kind ≠ 2) ∨ (0 < x.items.length ∧ x.kind ≠ 3) then 1000000
    else countL (deep + 1) 1 x.items) := by cases x; simp only [countV]; rfl
theorem countL_take {deep n : Int} {l : List VT} {i : Nat} {x : VT} (hx : l[i]? = some x) : countL deep n (l.take (i + 1)) = countL deep n (l.take i) + countV deep x := by
  have key : ∀ (a b : List VT) (n : Int), countL deep n (a ++ b) = countL deep (countL deep n a) b := fun a b => by
    induction a with
    | nil => intro n; simp [countL]
    | cons y r ih => intro n; simp [countL, ih]
  rw [List.take_add_one, key, hx]
  simp [countL]
/-- No count is as great as that it doesn't fit. -/
theorem count_bound (k : Nat) : ∀ (x : VT) (d : Nat) (deep : Int), SizeOf.sizeOf x < k → deep = 3 - d → 1 ≤ countV deep x ∧ countV deep x ≤ 1000000 * 7 ^ d := by
  induction k with
  | zero => intro x d deep h; omega
  | succ k ih =>
    intro x d deep hk hd
    have hp : (1 : Int) ≤ 7 ^ d := by
      have := Nat.one_le_pow d 7 (by omega)
      exact_mod_cast this
    rw [countV_def]
    split
    · omega
    split
    · omega
    rename_i h1 h2
    cases hl : x.items with
    | nil => simp only [countL]; omega
    | cons y r =>
      have hk3 : x.kind = 3 := Decidable.byContradiction fun h => h2 (.inr (.inr ⟨by rw [hl]; simp, h⟩))
      have hd1 : ¬ deep ≥ 3 := fun h => h1 (.inr (.inr (.inl ⟨hk3, h⟩)))
      obtain ⟨d', rfl⟩ : ∃ d', d = d' + 1 := ⟨d - 1, by omega⟩
      have hlen : x.items.length ≤ 6 := by
        have : ¬ x.items.length > 6 := fun h => h1 (.inr (.inr (.inr (.inl h))))
        omega
      have key : ∀ (l : List VT) (n : Int), (∀ z ∈ l, SizeOf.sizeOf z < k) → 1 ≤ n → 1 ≤ countL (deep + 1) n l ∧ countL (deep + 1) n l ≤ n + l.length * (1000000 * 7 ^ d') := by
        intro l
        induction l with
        | nil => intro n _ hn; simp only [countL, List.length_nil]; omega
        | cons z l ihl =>
          intro n hz hn
          have hb := ih z d' (deep + 1) (hz z (.head _)) (by omega)
          have := ihl (n + countV (deep + 1) z) (fun u hu => hz u (.tail _ hu)) (by omega)
          simp only [countL, List.length_cons]
          refine ⟨this.1, ?_⟩
          rw [show ((l.length + 1 : Nat) : Int) * (1000000 * 7 ^ d') = l.length * (1000000 * 7 ^ d') + 1000000 * 7 ^ d' by rw [Int.natCast_add, Int.add_mul]; simp]
          omega
      have := key x.items 1 (fun z hz => by
        obtain ⟨i, hi⟩ := List.getElem?_of_mem hz
        have := VT.size_lt hi
        omega) (by omega)
      rw [hl] at this hlen
      refine ⟨this.1, Int.le_trans this.2 ?_⟩
      have h6 : ((y :: r).length : Int) * (1000000 * 7 ^ d') ≤ 6 * (1000000 * 7 ^ d') := Int.mul_le_mul_of_nonneg_right (by omega) (by
        have := Nat.one_le_pow d' 7 (by omega)
        have : (1 : Int) ≤ 7 ^ d' := by exact_mod_cast this
        omega)
      have hp' : (1 : Int) ≤ 7 ^ d' := by
        have := Nat.one_le_pow d' 7 (by omega)
        exact_mod_cast this
      rw [show (7 : Int) ^ (d' + 1) = 7 ^ d' * 7 by rw [Int.pow_succ]]
      omega

set_option maxHeartbeats 1000000 in
theorem count_any (k : Nat) : ∀ (x : VT) (p : Option Addr) (m c : Nat) (w : World) (deep : Int), SizeOf.sizeOf x < k → IsV w x p m c → 0 ≤ deep → deep ≤ 3 →
    Calls Tryd.prog 16 #[valV x p m c, .int .i64 deep] w fun e w' => e = .returned (.int .i64 (countV deep x)) ∧ Ch No w w' := by
  induction k with
  | zero => intro x p m c w deep h; omega
  | succ k ih =>
    intro x p m c w deep hk hx d0 d1
    refine calls_of_fnT mixed Tryd.func16 (s := s16) ?_
    unfold valV
    rw [t16, countV_def]
    refine nw fun w1 h1 z1 b1 => ?_
    have hl := RIt_len hx.its
    have hcap := hx.cap
    have hbig := hx.big
    refine cut_i mixed s16_2 (fun (v : Bool × Unit) w' => w' = w1 ∧ v.1 = decide (x.kind < 0 ∨ x.kind > 3 ∨ (x.kind = 3 ∧ deep ≥ 3) ∨ x.items.length > 6 ∨ x.text.size > 24)) (by kernel_rfl) (fun g => ?_) ?_
    · rw [t16_2]
      have E : ∀ (P Q : Prop) [Decidable P] [Decidable Q], (P ↔ Q) → decide P = decide Q := fun P Q _ _ h => decide_eq_decide.2 h
      refine ld_int (b1.cell 0) (br_both (fun e => ⟨rfl, (true, ()), rfl, rfl, ?_⟩) fun e0 => ld_int (b1.cell 0) (br_both (fun e => ⟨rfl, (true, ()), rfl, rfl, ?_⟩) fun e1 => ld_int (b1.cell 0) (br_both (fun e2 => br_both (fun e => ⟨rfl, (true, ()), rfl, rfl, ?_⟩) fun e3 => ld_sl (b1.cell 3) (br_both (fun e => ⟨rfl, (true, ()), rfl, rfl, ?_⟩) fun e4 => ld_str (b1.cell 2) ⟨rfl, (decide ((x.text.size : Int) > 24), ()), rfl, rfl, ?_⟩))
        fun e2 => ld_sl (b1.cell 3) (br_both (fun e => ⟨rfl, (true, ()), rfl, rfl, ?_⟩) fun e4 => ld_str (b1.cell 2) ⟨rfl, (decide ((x.text.size : Int) > 24), ()), rfl, rfl, ?_⟩))))
      · have e := of_decide_eq_true e
        exact (decide_eq_true (.inl e)).symm
      · have e := of_decide_eq_true e
        exact (decide_eq_true (.inr (.inl e))).symm
      · have e := of_decide_eq_true e
        have e2 : x.kind = 3 := by simpa using e2
        exact (decide_eq_true (.inr (.inr (.inl ⟨e2, e⟩)))).symm
      · have e := of_decide_eq_true e
        refine (decide_eq_true (.inr (.inr (.inr (.inl ?_))))).symm
        dsimp only at e; omega
      · have e0 := of_decide_eq_false e0
        have e1 := of_decide_eq_false e1
        have e3 := of_decide_eq_false e3
        have e4 := of_decide_eq_false e4
        dsimp only at e4
        refine E _ _ ⟨fun h => .inr (.inr (.inr (.inr (by omega)))), fun h => ?_⟩
        rcases h with h | h | h | h | h
        · exact absurd h e0
        · exact absurd h e1
        · exact absurd h.2 e3
        · omega
        · omega
      · have e := of_decide_eq_true e
        refine (decide_eq_true (.inr (.inr (.inr (.inl ?_))))).symm
        dsimp only at e; omega
      · have e0 := of_decide_eq_false e0
        have e1 := of_decide_eq_false e1
        have e2 : ¬ x.kind = 3 := by simpa using e2
        have e4 := of_decide_eq_false e4
        dsimp only at e4
        refine E _ _ ⟨fun h => .inr (.inr (.inr (.inr (by omega)))), fun h => ?_⟩
        rcases h with h | h | h | h | h
        · exact absurd h e0
        · exact absurd h e1
        · exact absurd h.1 e2
        · omega
        · omega
    rintro ⟨u, ⟨⟩⟩ g w' ⟨rfl, hu⟩
    dsimp only at hu
    subst hu
    refine br_both (fun e => ?_) fun e => ?_
    · rw [if_pos (of_decide_eq_true e)]
      exact ⟨rfl, h1⟩
    have g1 := of_decide_eq_false e
    rw [if_neg g1]
    clear e
    refine cut_i mixed s16_11 (fun (v : Bool × Unit) w'' => w'' = w' ∧ v.1 = decide ((x.int ≠ 0 ∧ x.kind ≠ 1) ∨ (x.text.toList ≠ [] ∧ x.kind ≠ 2) ∨ (0 < x.items.length ∧ x.kind ≠ 3))) (by kernel_rfl) (fun g => ?_) ?_
    · rw [t16_11]
      have tail : ∀ (P Q : Prop) [Decidable P] [Decidable Q], ¬ P → ¬ Q → wpT Tryd.prog (fun e w' => e = .returned (.int .i64 (if P ∨ Q ∨ (0 < x.items.length ∧ x.kind ≠ 3) then 1000000 else countL (deep + 1) 1 x.items)) ∧ Ch No w w') (fun e L w'' => e = .normal ∧ ∃ v, L = mvals mx16_11 v ∧ w'' = w' ∧ v.1 = decide (P ∨ Q ∨ (0 < x.items.length ∧ x.kind ≠ 3)))
          (.load ⟨w.heap.size, 3, none⟩ .sl (fun l24 => .br (Decidable.decide ((↑l24.snd.fst : Int) > 0)) (.load ⟨w.heap.size, 0, none⟩ (.int .i64) (fun x25 => .fin .normal [(64, .bool (x25 != 3))])) (.fin .normal [(64, .bool false)]))) .pl w' := by
        intro P Q _ _ hP hQ
        refine ld_sl (b1.cell 3) (br_both (fun e => ld_int (b1.cell 0) ⟨rfl, (x.kind != 3, ()), rfl, rfl, ?_⟩) fun e => ⟨rfl, (false, ()), rfl, rfl, ?_⟩)
        · have e := of_decide_eq_true e
          dsimp only at e ⊢
          rw [Bool.eq_iff_iff, bne_iff_ne, decide_eq_true_eq]
          exact ⟨fun h => .inr (.inr ⟨by omega, h⟩), fun h => ((h.resolve_left hP).resolve_left hQ).2⟩
        · have e := of_decide_eq_false e
          dsimp only at e
          refine (decide_eq_false fun h => ?_).symm
          have := ((h.resolve_left hP).resolve_left hQ).1
          omega
      have txt : ∀ (P : Prop) [Decidable P], ¬ P → wpT Tryd.prog (fun e w' => e = .returned (.int .i64 (if P ∨ (x.text.toList ≠ [] ∧ x.kind ≠ 2) ∨ (0 < x.items.length ∧ x.kind ≠ 3) then 1000000 else countL (deep + 1) 1 x.items)) ∧ Ch No w w') (fun e L w'' => e = .normal ∧ ∃ v, L = mvals mx16_11 v ∧ w'' = w' ∧ v.1 = decide (P ∨ (x.text.toList ≠ [] ∧ x.kind ≠ 2) ∨ (0 < x.items.length ∧ x.kind ≠ 3)))
          (.load ⟨w.heap.size, 2, none⟩ .str (fun s20 =>
        .br (!s20.toList == (bytesL []).toList)
          (.load ⟨w.heap.size, 0, none⟩ (.int .i64) (fun x21 =>
            .br (x21 != 2)
              (.fin .normal [(64, .bool true)])
              (.load ⟨w.heap.size, 3, none⟩ .sl (fun l22 =>
                .br (Decidable.decide ((↑l22.snd.fst : Int) > 0))
                  (.load ⟨w.heap.size, 0, none⟩ (.int .i64) (fun x23 =>
                    .fin .normal [(64, .bool (x23 != 3))]))
                  (.fin .normal [(64, .bool false)])))))
          (.load ⟨w.heap.size, 3, none⟩ .sl (fun l24 =>
            .br (Decidable.decide ((↑l24.snd.fst : Int) > 0))
              (.load ⟨w.heap.size, 0, none⟩ (.int .i64) (fun x25 =>
                .fin .normal [(64, .bool (x25 != 3))]))
              (.fin .normal [(64, .bool false)]))))) .pl w' := by
        intro P _ hP
        refine ld_str (b1.cell 2) (br_both (fun e => ld_int (b1.cell 0) (br_both (fun e' => ⟨rfl, (true, ()), rfl, rfl, ?_⟩) fun e' => ?_)) fun e => ?_)
        · have e : ¬ x.text.toList = [] := fun h => by
            rw [h, bytesL_nil] at e
            simp at e
          rw [bne_iff_ne] at e'
          exact (decide_eq_true (.inr (.inl ⟨e, e'⟩))).symm
        · have e' : x.kind = 2 := by simpa using e'
          exact tail P _ hP (fun h => h.2 e')
        · have e : x.text.toList = [] := by
            have e' : (x.text.toList == (bytesL []).toList) = true := by simpa using e
            rw [bytesL_nil] at e'
            simpa using e'
          exact tail P _ hP (fun h => h.1 e)
      refine ld_int (b1.cell 1) (br_both (fun e => ld_int (b1.cell 0) (br_both (fun e' => ⟨rfl, (true, ()), rfl, rfl, ?_⟩) fun e' => ?_)) fun e => ?_)
      · rw [bne_iff_ne] at e e'
        exact (decide_eq_true (.inl ⟨e, e'⟩)).symm
      · have e' : x.kind = 1 := by simpa using e'
        exact txt _ (fun h => h.2 e')
      · have e : x.int = 0 := by simpa using e
        exact txt _ (fun h => h.1 e)
    rintro ⟨u, ⟨⟩⟩ g w'' ⟨rfl, hu⟩
    dsimp only at hu
    subst hu
    refine br_both (fun e => ?_) fun e => ?_
    · rw [if_pos (of_decide_eq_true e)]
      exact ⟨rfl, h1⟩
    have g2 := of_decide_eq_false e
    rw [if_neg g2]
    clear e
    refine loop_i mixed m16_27 s16_27 (by kernel_rfl) (by kernel_rfl)
      (fun (v : Int × Int × Unit) w' => 0 ≤ v.2.1 ∧ v.2.1 ≤ m ∧ Ch No w'' w' ∧ v.1 = countL (deep + 1) 1 (x.items.take v.2.1.toNat) ∧ 1 ≤ v.1 ∧ v.1 ≤ 1 + v.2.1 * 1000000000) (fun (v : Int × Int × Unit) _ => m - v.2.1.toNat) (1, 0, ()) rfl ⟨by simp, by simp, Ch.refl _ _, by simp [countL], by simp, by simp⟩ ?_
    rintro ⟨(n : Int), (i : Int), ⟨⟩⟩ g w2 ⟨(i0 : 0 ≤ i), (i1 : i ≤ m), hw, hs, n0, n1⟩
    rw [t16_27]
    dsimp only at hs n0 n1
    have B := b1.ch hw (fun h => h)
    refine ld_sl (B.cell 3) (br_both (fun e => ?_) fun e => ?_)
    · have hi : i < m := by simpa using e
      obtain ⟨y, hy⟩ : ∃ u, x.items[i.toNat]? = some u := ⟨_, List.getElem?_eq_getElem (by omega)⟩
      obtain ⟨ad, q, my, cy, rfl, cv, vy⟩ := hx.get hy
      have h02 := h1.trans hw
      have C := cv.ch (w' := w2) (fun a v ha => h02.cellv ha (fun h => h))
      have hk3 : x.kind = 3 := Decidable.byContradiction fun h => g2 (.inr (.inr ⟨by omega, h⟩))
      have hd : ¬ deep ≥ 3 := fun h => g1 (.inr (.inr (.inl ⟨hk3, h⟩)))
      have hm6 : ¬ x.items.length > 6 := fun h => g1 (.inr (.inr (.inr (.inl h))))
      refine ld_sl (B.cell 3) (ix_i i0 (by simpa using hi) (ld_int C.c0 (ld_int C.c1 (ld_str C.c2 (ld_sl C.c3 ?_)))))
      have hsz := VT.size_lt hy
      rw [wrap_succ d0 (by omega)]
      refine cl_i (ih y q my cy w2 (deep + 1) (by omega) (vy.no h02) (by omega) (by omega)) ?_
      rintro e w3 ⟨rfl, h3⟩
      have hb := count_bound _ y (3 - (deep + 1)).toNat (deep + 1) (Nat.lt_succ_self _) (by omega)
      have h7 : (7 : Int) ^ (3 - (deep + 1)).toNat ≤ 343 := by
        have : (3 - (deep + 1)).toNat = 0 ∨ (3 - (deep + 1)).toNat = 1 ∨ (3 - (deep + 1)).toNat = 2 := by omega
        rcases this with h | h | h <;> rw [h] <;> decide
      have hnw : IntKind.i64.wrap (n + countV (deep + 1) y) = n + countV (deep + 1) y := by rw [IntKind.wrap_i64]; omega
      refine ⟨_, rfl, (n + countV (deep + 1) y, i + 1, ()), ?_, ⟨by dsimp only; omega, by dsimp only; omega, hw.trans h3, ?_, by dsimp only; omega, by dsimp only; omega⟩, by dsimp only; omega⟩
      · rw [wrap_succ i0 (by omega), hnw]; rfl
      · dsimp only
        rw [show (i + 1).toNat = i.toNat + 1 by omega, countL_take hy, ← hs]
    · have hi : ¬ i < m := by simpa using e
      refine ⟨rfl, (n, ()), rfl, fun g => ?_⟩
      rw [List.take_of_length_le (by omega)] at hs
      exact ⟨by rw [hs], h1.trans hw⟩

/-- Few enough parts, counted so, and no fault: the same. -/
theorem count_part (k : Nat) : ∀ (x : VT) (n depth : Int), SizeOf.sizeOf x < k → 0 ≤ n → 0 ≤ depth → depth ≤ 3 → ((partV n depth x).1 = 0 → countV depth x = (partV n depth x).2 - n ∧ (partV n depth x).2 ≤ 12) ∧ (n + countV depth x ≤ 12 → (partV n depth x).1 = 0) := by
  induction k with
  | zero => intro x n depth h; omega
  | succ k ih =>
    intro x n depth hk n0 d0 d1
    have key : ∀ (l : List VT) (n c : Int), (∀ z ∈ l, SizeOf.sizeOf z < k) → 0 ≤ n → (l ≠ [] → depth + 1 ≤ 3) → n ≤ 12 →
        ((partL n depth l).1 = 0 → countL (depth + 1) c l - c = (partL n depth l).2 - n ∧ (partL n depth l).2 ≤ 12) ∧ (n + (countL (depth + 1) c l - c) ≤ 12 → (partL n depth l).1 = 0) := by
      intro l
      induction l with
      | nil => intro n c _ _ _ h12; simp only [partL, countL]; exact ⟨fun _ => ⟨by omega, h12⟩, fun _ => trivial⟩
      | cons z r ihl =>
        intro n c hz hn hd h12
        have hd' := hd (by simp)
        have h1 := ih z n (depth + 1) (hz z (.head _)) hn (by omega) hd'
        have hmono : ∀ (l : List VT) (c : Int), (∀ z ∈ l, SizeOf.sizeOf z < k) → c ≤ countL (depth + 1) c l := by
          intro l
          induction l with
          | nil => intro c _; simp [countL]
          | cons z r ihm =>
            intro c hz
            have hb := count_bound _ z (3 - (depth + 1)).toNat (depth + 1) (Nat.lt_succ_self _) (by omega)
            have := ihm (c + countV (depth + 1) z) (fun u hu => hz u (.tail _ hu))
            simp only [countL]; omega
        have hm := hmono r (c + countV (depth + 1) z) (fun u hu => hz u (.tail _ hu))
        simp only [partL, countL]
        by_cases he : (partV n (depth + 1) z).1 = 0
        · rw [if_neg (fun h => h he)]
          obtain ⟨hc, hle⟩ := h1.1 he
          have hb := count_bound _ z (3 - (depth + 1)).toNat (depth + 1) (Nat.lt_succ_self _) (by omega)
          have h2 := ihl (partV n (depth + 1) z).2 (c + countV (depth + 1) z) (fun u hu => hz u (.tail _ hu)) (by omega) (fun _ => hd') hle
          refine ⟨fun h => ?_, fun h => h2.2 (by omega)⟩
          have := h2.1 h
          omega
        · rw [if_pos he]
          refine ⟨fun h => absurd h he, fun h => ?_⟩
          exact absurd (h1.2 (by omega)) he
    have hz : ∀ z ∈ x.items, SizeOf.sizeOf z < k := fun z hz => by
      obtain ⟨i, hi⟩ := List.getElem?_of_mem hz
      have := VT.size_lt hi
      omega
    have hc1 := (count_bound _ x (3 - depth).toNat depth (Nat.lt_succ_self _) (by omega)).1
    rw [partV_def]
    by_cases h12 : n + 1 > 12
    · rw [if_pos h12]; exact ⟨fun h => by simp at h, fun h => by omega⟩
    rw [if_neg h12]
    have hbig : countV depth x = 1000000 → ∀ e : Int, e ≠ 0 → (((e, n + 1) : Int × Int).1 = 0 → countV depth x = ((e, n + 1) : Int × Int).2 - n ∧ ((e, n + 1) : Int × Int).2 ≤ 12) ∧ (n + countV depth x ≤ 12 → ((e, n + 1) : Int × Int).1 = 0) := fun hb e he => ⟨fun h => absurd h he, fun h => by omega⟩
    by_cases c1 : x.kind < 0 ∨ x.kind > 3
    · rw [if_pos c1]
      refine hbig ?_ 20 (by decide)
      rw [countV_def, if_pos (by rcases c1 with h | h; exact .inl h; exact .inr (.inl h))]
    rw [if_neg c1]
    by_cases c2 : (x.int ≠ 0 ∧ x.kind ≠ 1) ∨ (x.text.toList ≠ [] ∧ x.kind ≠ 2) ∨ (0 < x.items.length ∧ x.kind ≠ 3)
    · rw [if_pos c2]
      refine hbig ?_ 20 (by decide)
      rw [countV_def, if_pos c2, ite_self]
    rw [if_neg c2]
    by_cases c3 : x.kind = 3 ∧ depth ≥ 3
    · rw [if_pos c3]
      refine hbig ?_ 23 (by decide)
      rw [countV_def, if_pos (.inr (.inr (.inl c3)))]
    rw [if_neg c3]
    by_cases c4 : x.text.size > 24
    · rw [if_pos c4]
      refine hbig ?_ 21 (by decide)
      rw [countV_def, if_pos (.inr (.inr (.inr (.inr c4))))]
    rw [if_neg c4]
    by_cases c5 : x.items.length > 6
    · rw [if_pos c5]
      refine hbig ?_ 22 (by decide)
      rw [countV_def, if_pos (.inr (.inr (.inr (.inl c5))))]
    rw [if_neg c5]
    have hd : x.items ≠ [] → depth + 1 ≤ 3 := fun h => by
      have h0 : 0 < x.items.length := List.length_pos_iff.2 h
      have hk3 : x.kind = 3 := Decidable.byContradiction fun h' => c2 (.inr (.inr ⟨h0, h'⟩))
      have : ¬ depth ≥ 3 := fun h' => c3 ⟨hk3, h'⟩
      omega
    have hcv : countV depth x = countL (depth + 1) 1 x.items := by
      rw [countV_def, if_neg (by
        rintro (h | h | h | h | h)
        · exact c1 (.inl h)
        · exact c1 (.inr h)
        · exact c3 h
        · exact c5 h
        · exact c4 h), if_neg c2]
    rw [hcv]
    have := key x.items (n + 1) 1 hz (by omega) hd (by omega)
    refine ⟨fun h => ?_, fun h => this.2 (by omega)⟩
    have := this.1 h
    omega
theorem clean_valid (x : VT) : countV 0 x > 12 ↔ ¬ checkV x = 0 := by
  have h := count_part _ x 0 0 (Nat.lt_succ_self _) (by omega) (by omega) (by omega)
  unfold checkV
  constructor
  · intro h1 h2
    have := h.1 h2
    omega
  · intro h1
    have : ¬ (0 + countV 0 x ≤ 12) := fun h' => h1 (h.2 h')
    omega
theorem clean_any (x : VT) (p : Option Addr) (m c : Nat) (w : World) (hx : IsV w x p m c) :
    Calls Tryd.prog 17 #[valV x p m c] w fun e w' => e = .returned (if checkV x = 0 then valV x p m c else valV noneV none 0 0) ∧ Ch No w w' := by
  refine calls_of_fnT mixed Tryd.func17 (s := s17) ?_
  unfold valV
  rw [t17]
  refine nw fun w1 h1 z1 b1 => nw fun w2 h2 z2 b2 => ?_
  have B := b1.ch h2 (fun h => h)
  have H : Ch No w w2 := h1.trans h2
  refine ld_int (B.cell 0) (ld_int (B.cell 1) (ld_str (B.cell 2) (ld_sl (B.cell 3) ?_)))
  refine cl_i (count_any _ x p m c w2 0 (Nat.lt_succ_self _) (hx.no H) (by omega) (by omega)) ?_
  rintro e w3 ⟨rfl, h3⟩
  refine ⟨_, rfl, br_both (fun e => ?_) fun e => ?_⟩
  · have e := of_decide_eq_true e
    rw [if_neg ((clean_valid x).1 e)]
    refine st_blk (b2.ch h3 (fun h => h)) (by simp) rfl fun w4 h4 z4 b4 => st_blk b4 (by simp) rfl fun w5 h5 z5 b5 => st_blk b5 (by simp) rfl fun w6 h6 z6 b6 => st_blk b6 (by simp) rfl fun w7 h7 z7 b7 => ?_
    refine ld_int (b7.cell 0) (ld_int (b7.cell 1) (ld_str (b7.cell 2) (ld_sl (b7.cell 3) ?_)))
    exact ⟨rfl, (H.trans h3).then_ (h4.trans (h5.trans (h6.trans h7))) (fun i hi (e : i = _) => by omega)⟩
  · have e : checkV x = 0 := Decidable.byContradiction fun h => of_decide_eq_false e ((clean_valid x).2 h)
    rw [if_pos e]
    have B3 := B.ch h3 (fun h => h)
    refine ld_int (B3.cell 0) (ld_int (B3.cell 1) (ld_str (B3.cell 2) (ld_sl (B3.cell 3) ?_)))
    refine st_blk (b2.ch h3 (fun h => h)) (by simp) rfl fun w4 h4 z4 b4 => st_blk b4 (by simp) rfl fun w5 h5 z5 b5 => st_blk b5 (by simp) rfl fun w6 h6 z6 b6 => st_blk b6 (by simp) rfl fun w7 h7 z7 b7 => ?_
    refine ld_int (b7.cell 0) (ld_int (b7.cell 1) (ld_str (b7.cell 2) (ld_sl (b7.cell 3) ?_)))
    exact ⟨rfl, (H.trans h3).then_ (h4.trans (h5.trans (h6.trans h7))) (fun i hi (e : i = _) => by omega)⟩
end Go.Proofs.YtjellmblammiaaaDoor
