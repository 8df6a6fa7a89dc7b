/- Check tells a value's first fault; Compare tells one order: what they compute, in plain words. -/
import Derived.Test.YtjlmkahagcojcaaGreatDoorKrt
namespace Go.Proofs.YtjlmkahagcojcaaGreatDoor
open Go Tr
set_option maxRecDepth 100000
/-! the tree of function 41 -/
def s41 : Script := .nil
theorem t41 : fnT Tryz.prog Tryz.f41 #[] s41 = .new (.cells #[.int .i64 10000] 150 (0, 0)) (fun n1 => .done (.returned (.pointer (some ⟨n1, 0, none⟩)))) := by kernel_rfl
/-! the tree of function 43 -/
def s43 : Script := .ld (.int .i64) .nil
theorem t43 (qa0 : Addr) : fnT Tryz.prog Tryz.f43 #[.pointer (some qa0)] s43 = .load qa0 (.int .i64) (fun x1 => .done (.returned (.bool (Decidable.decide (x1 ≥ 0))))) := by kernel_rfl
/-! the tree of function 104 -/
def s104 : Script := .ld (.int .i64) (.sym (.ld (.int .i64) (.ld (.int .i64) .nil)) (.ld (.int .i64) .nil))
theorem t104 (qa0 : Addr) (qx1 : Int) : fnT Tryz.prog Tryz.f104 #[.pointer (some qa0), .int .i64 qx1] s104 = .load qa0 (.int .i64) (fun x1 => .br (Decidable.decide (x1 ≥ 0)) (.load qa0 (.int .i64) (fun x2 => .store qa0 (.int .i64 (IntKind.i64.wrap (x2 - qx1))) (.load qa0 (.int .i64) (fun x3 => .done (.returned (.bool (Decidable.decide (x3 ≥ 0)))))))) (.load qa0 (.int .i64) (fun x4 => .done (.returned (.bool (Decidable.decide (x4 ≥ 0))))))) := by kernel_rfl
/-! the tree of function 116 -/
abbrev fx116_4 (qa0 : Addr) (qx2 : Int) (n1 : Nat) : List (Tmp × Value) := [(0, .pointer (some qa0)), (2, .int .i64 qx2), (4, .pointer (some ⟨n1, 0, none⟩))]
abbrev mx116_4 : List (Tmp × Comp) := [(23, .leaf .bool)]
def s116_4 : Script := .ld (.int .i64) (.sym (.lit (.lit (.lit .nil))) (.lit (.ld (.int .i64) (.lit (.lit .nil)))))
theorem t116_4 (qa0 : Addr) (qx2 : Int) (n1 : Nat) (gg4 : Nat → Value) : pieceT Tryz.prog (at_ Tryz.f116 [1, 1, 0, 0, 1, 1, 0]) 92 (fx116_4 qa0 qx2 n1) gg4 (mx116_4.map (·.1)) [] [] s116_4 = .load ⟨n1, 0, none⟩ (.int .i64) (fun x5 => .br (Decidable.decide (x5 < 0)) (.fin .normal [(23, .bool true)]) (.load ⟨n1, 0, none⟩ (.int .i64) (fun x6 => .fin .normal [(23, .bool (Decidable.decide (x6 > 3)))]))) := by kernel_rfl
abbrev fx116_8 (qa0 : Addr) (qx2 : Int) (n1 : Nat) : List (Tmp × Value) := [(0, .pointer (some qa0)), (2, .int .i64 qx2), (4, .pointer (some ⟨n1, 0, none⟩))]
abbrev mx116_8 : List (Tmp × Comp) := [(32, .leaf .bool)]
abbrev fx116_9 (qa0 : Addr) (qx2 : Int) (n1 : Nat) : List (Tmp × Value) := [(0, .pointer (some qa0)), (2, .int .i64 qx2), (4, .pointer (some ⟨n1, 0, none⟩))]
abbrev mx116_9 : List (Tmp × Comp) := [(32, .leaf .bool)]
def s116_9 : Script := .ld (.int .i64) (.sym (.lit (.ld (.int .i64) (.lit (.lit .nil)))) (.lit (.lit (.lit .nil))))
theorem t116_9 (qa0 : Addr) (qx2 : Int) (n1 : Nat) (gg9 : Nat → Value) : pieceT Tryz.prog (at_ Tryz.f116 [1, 1, 0, 0, 1, 1, 1, 1, 0, 0]) 92 (fx116_9 qa0 qx2 n1) gg9 (mx116_9.map (·.1)) [] [] s116_9 = .load ⟨n1, 1, none⟩ (.int .i64) (fun x10 => .br (x10 != 0) (.load ⟨n1, 0, none⟩ (.int .i64) (fun x11 => .fin .normal [(32, .bool (x11 != 1))])) (.fin .normal [(32, .bool false)])) := by kernel_rfl
abbrev fx116_13 (qa0 : Addr) (qx2 : Int) (n1 : Nat) : List (Tmp × Value) := [(0, .pointer (some qa0)), (2, .int .i64 qx2), (4, .pointer (some ⟨n1, 0, none⟩))]
abbrev mx116_13 : List (Tmp × Comp) := [(32, .leaf .bool)]
def s116_13 : Script := .ld .str (.sym (.lit (.ld (.int .i64) (.lit (.lit .nil)))) (.lit (.lit (.lit .nil))))
theorem t116_13 (qa0 : Addr) (qx2 : Int) (n1 : Nat) (gg13 : Nat → Value) : pieceT Tryz.prog (at_ Tryz.f116 [1, 1, 0, 0, 1, 1, 1, 1, 0, 1, 1, 0]) 92 (fx116_13 qa0 qx2 n1) gg13 (mx116_13.map (·.1)) [] [] s116_13 = .load ⟨n1, 2, none⟩ .str (fun s14 => .br (!s14.toList == (bytesL []).toList) (.load ⟨n1, 0, none⟩ (.int .i64) (fun x15 => .fin .normal [(32, .bool (x15 != 2))])) (.fin .normal [(32, .bool false)])) := by kernel_rfl
def s116_8 : Script := .ct 0 [0, 2, 4] mx116_9 (.sym .nil (.ct 0 [0, 2, 4] mx116_13 (.sym .nil (.ld .sl (.sym (.lit (.ld (.int .i64) (.lit (.lit .nil)))) (.lit (.lit (.lit .nil))))))))
theorem t116_8 (qa0 : Addr) (qx2 : Int) (n1 : Nat) (gg8 : Nat → Value) : pieceT Tryz.prog (at_ Tryz.f116 [1, 1, 0, 0, 1, 1, 1, 1, 0]) 92 (fx116_8 qa0 qx2 n1) gg8 (mx116_8.map (·.1)) [] [] s116_8 = .cut (at_ Tryz.f116 [1, 1, 0, 0, 1, 1, 1, 1, 0, 0]) 92 (fx116_9 qa0 qx2 n1) mx116_9 (fun u12 g12 => .br u12.1 (.fin .normal [(32, .bool true)]) (.cut (at_ Tryz.f116 [1, 1, 0, 0, 1, 1, 1, 1, 0, 1, 1, 0]) 92 (fx116_13 qa0 qx2 n1) mx116_13 (fun u16 g16 => .br u16.1 (.fin .normal [(32, .bool true)]) (.load ⟨n1, 3, none⟩ .sl (fun l17 => .br (Decidable.decide ((↑l17.snd.fst : Int) > 0)) (.load ⟨n1, 0, none⟩ (.int .i64) (fun x18 => .fin .normal [(32, .bool (x18 != 3))])) (.fin .normal [(32, .bool false)])))))) := by kernel_rfl
abbrev fx116_20 (qa0 : Addr) (qx2 : Int) (n1 : Nat) : List (Tmp × Value) := [(0, .pointer (some qa0)), (2, .int .i64 qx2), (4, .pointer (some ⟨n1, 0, none⟩))]
abbrev mx116_20 : List (Tmp × Comp) := [(58, .leaf .bool)]
def s116_20 : Script := .ld (.int .i64) (.sym (.lit (.lit .nil)) (.lit (.lit .nil)))
theorem t116_20 (qa0 : Addr) (qx2 : Int) (n1 : Nat) (gg20 : Nat → Value) : pieceT Tryz.prog (at_ Tryz.f116 [1, 1, 0, 0, 1, 1, 1, 1, 1, 1, 0]) 92 (fx116_20 qa0 qx2 n1) gg20 (mx116_20.map (·.1)) [] [] s116_20 = .load ⟨n1, 0, none⟩ (.int .i64) (fun x21 => .br (x21 == 3) (.fin .normal [(58, .bool (Decidable.decide (qx2 ≥ 3)))]) (.fin .normal [(58, .bool false)])) := by kernel_rfl
abbrev fx116_26 (qa0 : Addr) (qx2 : Int) (l25 : Option Addr × Nat × Nat) : List (Tmp × Value) := [(0, .pointer (some qa0)), (2, .int .i64 qx2), (77, .slice l25.1 l25.2.1 l25.2.2), (78, .int .i64 (↑l25.snd.fst : Int))]
abbrev m116_26 : List (Tmp × Comp) := [(79, .leaf (.int .i64))]
abbrev mx116_26 : List (Tmp × Comp) := []
abbrev mr116_26 : List (Tmp × Comp) := [(6, .leaf (.int .i64))]
def s116_26 : Script := .sym (.ix (.ld (.int .i64) (.ld (.int .i64) (.ld .str (.ld .sl (.ld (.int .i64) (.ld (.int .i64) (.ld .str (.ld .sl (.cl (.one (.leaf (.int .i64))) (.sym .nil .nil))))))))))) .nil
theorem t116_26 (qa0 : Addr) (qx2 : Int) (l25 : Option Addr × Nat × Nat) (x_79 : Int) (gg26 : Nat → Value) : pieceT Tryz.prog (at_ Tryz.f116 [1, 1, 1, 0, 1, 0, 0]) 92 (fx116_26 qa0 qx2 l25 ++ mvals m116_26 (x_79, ())) gg26 (m116_26.map (·.1)) (mx116_26.map (·.1)) (mr116_26.map (·.1)) s116_26 = .br (Decidable.decide (x_79 < (↑l25.snd.fst : Int))) (.idx l25.1 x_79 l25.2.1 4 (fun a27 => .load a27 (.int .i64) (fun x28 => .load (a27.add 1) (.int .i64) (fun x29 => .load (a27.add 2) .str (fun s30 => .load (a27.add 3) .sl (fun l31 => .new (.cells #[.int .i64 0, .int .i64 0, .string (bytesL []), .slice none 0 0] 52 (0, 0)) (fun n32 => .store ⟨n32, 0, none⟩ (.int .i64 x28) (.store ⟨n32, 1, none⟩ (.int .i64 x29) (.store ⟨n32, 2, none⟩ (.string s30) (.store ⟨n32, 3, none⟩ (.slice l31.1 l31.2.1 l31.2.2) (.load ⟨n32, 0, none⟩ (.int .i64) (fun x33 => .load ⟨n32, 1, none⟩ (.int .i64) (fun x34 => .load ⟨n32, 2, none⟩ .str (fun s35 => .load ⟨n32, 3, none⟩ .sl (fun l36 => .call 116 #[.pointer (some qa0), .agg #[.int .i64 x33, .int .i64 x34, .string s35, .slice l36.1 l36.2.1 l36.2.2], .int .i64 (IntKind.i64.wrap (qx2 + 1))] (.one (.leaf (.int .i64))) (fun x37 => .br (x37 != 0) (.fin .ret [(6, .int .i64 x37)]) (.fin .normal [(79, .int .i64 (IntKind.i64.wrap (x_79 + 1)))]))))))))))))))))) (.fin (.exit 1) []) := by kernel_rfl
def s116 : Script := .ld (.int .i64) (.ld (.int .i64) (.sym .nil (.ct 0 [0, 2, 4] mx116_4 (.sym .nil (.ct 0 [0, 2, 4] mx116_8 (.sym .nil (.ct 0 [0, 2, 4] mx116_20 (.sym .nil (.ld .str (.sym .nil (.ld .sl (.sym .nil (.ld .sl (.lp 1 [0, 2, 77, 78] [79] mx116_26 mr116_26 .nil .nil))))))))))))))
theorem t116 (qa0 : Addr) (qx1_0 : Int) (qx1_1 : Int) (qs1_2 : ByteArray) (qa1_3 : Option Addr) (qn1_3 : Nat) (qc1_3 : Nat) (qx2 : Int) : fnT Tryz.prog Tryz.f116 #[.pointer (some qa0), .agg #[.int .i64 qx1_0, .int .i64 qx1_1, .string qs1_2, .slice qa1_3 qn1_3 qc1_3], .int .i64 qx2] s116 = .new (.cells #[.int .i64 qx1_0, .int .i64 qx1_1, .string qs1_2, .slice qa1_3 qn1_3 qc1_3] 52 (0, 0)) (fun n1 => .load qa0 (.int .i64) (fun x2 => .store qa0 (.int .i64 (IntKind.i64.wrap (x2 + 1))) (.load qa0 (.int .i64) (fun x3 => .br (Decidable.decide (x3 > 12)) (.done (.returned (.int .i64 22))) (.cut (at_ Tryz.f116 [1, 1, 0, 0, 1, 1, 0]) 92 (fx116_4 qa0 qx2 n1) mx116_4 (fun u7 g7 => .br u7.1 (.done (.returned (.int .i64 20))) (.cut (at_ Tryz.f116 [1, 1, 0, 0, 1, 1, 1, 1, 0]) 92 (fx116_8 qa0 qx2 n1) mx116_8 (fun u19 g19 => .br u19.1 (.done (.returned (.int .i64 20))) (.cut (at_ Tryz.f116 [1, 1, 0, 0, 1, 1, 1, 1, 1, 1, 0]) 92 (fx116_20 qa0 qx2 n1) mx116_20 (fun u22 g22 => .br u22.1 (.done (.returned (.int .i64 23))) (.load ⟨n1, 2, none⟩ .str (fun s23 => .br (Decidable.decide ((↑s23.size : Int) > 24)) (.done (.returned (.int .i64 21))) (.load ⟨n1, 3, none⟩ .sl (fun l24 => .br (Decidable.decide ((↑l24.snd.fst : Int) > 6)) (.done (.returned (.int .i64 22))) (.load ⟨n1, 3, none⟩ .sl (fun l25 => .loop (at_ Tryz.f116 [1, 1, 1, 0, 1, 0, 0]) 92 (fx116_26 qa0 qx2 l25) [(79, .int .i64 0)] mx116_26 mr116_26 1 (fun u38 g38 => .done (.returned (.int .i64 0))) (fun u39 g39 => .done (.returned (.int .i64 u39.1))))))))))))))))))) := by kernel_rfl
/-! the tree of function 87 -/
def s87 : Script := .ld (.int .i64) (.ld (.int .i64) (.ld .str (.ld .sl (.cl (.one (.leaf (.int .i64))) .nil))))
theorem t87 (qx0_0 : Int) (qx0_1 : Int) (qs0_2 : ByteArray) (qa0_3 : Option Addr) (qn0_3 : Nat) (qc0_3 : Nat) : fnT Tryz.prog Tryz.f87 #[.agg #[.int .i64 qx0_0, .int .i64 qx0_1, .string qs0_2, .slice qa0_3 qn0_3 qc0_3]] s87 = .new (.cells #[.int .i64 qx0_0, .int .i64 qx0_1, .string qs0_2, .slice qa0_3 qn0_3 qc0_3] 52 (0, 0)) (fun n1 => .new (.cells #[.int .i64 0] 201 (0, 0)) (fun n2 => .store ⟨n2, 0, none⟩ (.int .i64 0) (.load ⟨n1, 0, none⟩ (.int .i64) (fun x3 => .load ⟨n1, 1, none⟩ (.int .i64) (fun x4 => .load ⟨n1, 2, none⟩ .str (fun s5 => .load ⟨n1, 3, none⟩ .sl (fun l6 => .call 116 #[.pointer (some ⟨n2, 0, none⟩), .agg #[.int .i64 x3, .int .i64 x4, .string s5, .slice l6.1 l6.2.1 l6.2.2], .int .i64 0] (.one (.leaf (.int .i64))) (fun x7 => .done (.returned (.int .i64 x7)))))))))) := by kernel_rfl
/-! the tree of function 89 -/
def s89 : Script := .ld (.int .i64) (.ld (.int .i64) (.ld .str (.ld .sl (.cl (.one (.leaf (.int .i64))) (.sym (.ld (.int .i64) (.ld (.int .i64) (.ld .str (.ld .sl .nil)))) (.ld (.int .i64) (.ld (.int .i64) (.ld .str (.ld .sl (.ld (.int .i64) (.ld (.int .i64) (.ld .str (.ld .sl .nil)))))))))))))
theorem t89 (qx0_0 : Int) (qx0_1 : Int) (qs0_2 : ByteArray) (qa0_3 : Option Addr) (qn0_3 : Nat) (qc0_3 : Nat) : fnT Tryz.prog Tryz.f89 #[.agg #[.int .i64 qx0_0, .int .i64 qx0_1, .string qs0_2, .slice qa0_3 qn0_3 qc0_3]] s89 = .new (.cells #[.int .i64 qx0_0, .int .i64 qx0_1, .string qs0_2, .slice qa0_3 qn0_3 qc0_3] 52 (0, 0)) (fun n1 => .new (.cells #[.int .i64 0, .int .i64 0, .string (bytesL []), .slice none 0 0] 52 (0, 0)) (fun n2 => .load ⟨n1, 0, none⟩ (.int .i64) (fun x3 => .load ⟨n1, 1, none⟩ (.int .i64) (fun x4 => .load ⟨n1, 2, none⟩ .str (fun s5 => .load ⟨n1, 3, none⟩ .sl (fun l6 => .call 87 #[.agg #[.int .i64 x3, .int .i64 x4, .string s5, .slice l6.1 l6.2.1 l6.2.2]] (.one (.leaf (.int .i64))) (fun x7 => .br (x7 != 0) (.store ⟨n2, 0, none⟩ (.int .i64 0) (.store ⟨n2, 1, none⟩ (.int .i64 0) (.store ⟨n2, 2, none⟩ (.string (bytesL [])) (.store ⟨n2, 3, none⟩ (.slice none 0 0) (.load ⟨n2, 0, none⟩ (.int .i64) (fun x8 => .load ⟨n2, 1, none⟩ (.int .i64) (fun x9 => .load ⟨n2, 2, none⟩ .str (fun s10 => .load ⟨n2, 3, none⟩ .sl (fun l11 => .done (.returned (.agg #[.int .i64 x8, .int .i64 x9, .string s10, .slice l11.1 l11.2.1 l11.2.2]))))))))))) (.load ⟨n1, 0, none⟩ (.int .i64) (fun x12 => .load ⟨n1, 1, none⟩ (.int .i64) (fun x13 => .load ⟨n1, 2, none⟩ .str (fun s14 => .load ⟨n1, 3, none⟩ .sl (fun l15 => .store ⟨n2, 0, none⟩ (.int .i64 x12) (.store ⟨n2, 1, none⟩ (.int .i64 x13) (.store ⟨n2, 2, none⟩ (.string s14) (.store ⟨n2, 3, none⟩ (.slice l15.1 l15.2.1 l15.2.2) (.load ⟨n2, 0, none⟩ (.int .i64) (fun x16 => .load ⟨n2, 1, none⟩ (.int .i64) (fun x17 => .load ⟨n2, 2, none⟩ .str (fun s18 => .load ⟨n2, 3, none⟩ .sl (fun l19 => .done (.returned (.agg #[.int .i64 x16, .int .i64 x17, .string s18, .slice l19.1 l19.2.1 l19.2.2])))))))))))))))))))))) := by kernel_rfl
/-! ### Check -/
mutual
/-- The error of a part and of those in it, and how many parts were counted till then. -/
def partV (n depth : Int) : VT → Int × Int
  | .mk k i s l =>
    if n + 1 > 12 then (22, n + 1)
    else if k < 0 ∨ k > 3 then (20, n + 1)
    else if (i ≠ 0 ∧ k ≠ 1) ∨ (s.toList ≠ [] ∧ k ≠ 2) ∨ (0 < l.length ∧ k ≠ 3) then (20, n + 1)
    else if k = 3 ∧ depth ≥ 3 then (23, n + 1)
    else if s.size > 24 then (21, n + 1)
    else if l.length > 6 then (22, n + 1)
    else partL (n + 1) depth l
def partL (n depth : Int) : List VT → Int × Int
  | [] => (0, n)
  | x :: r => if (partV n (depth + 1) x).1 ≠ 0 then partV n (depth + 1) x else partL (partV n (depth + 1) x).2 depth r
end
theorem partV_def (n depth : Int) (x : VT) : partV n depth x = (if n + 1 > 12 then (22, n + 1)
    else if x.kind < 0 ∨ x.kind > 3 then (20, n + 1)
    else if (x.int ≠ 0 ∧ x.kind ≠ 1) ∨ (x.text.toList ≠ [] ∧ x.kind ≠ 2) ∨ (0 < x.items.length ∧ x.kind ≠ 3) then (20, n + 1)
    else if x.kind = 3 ∧ depth ≥ 3 then (23, n + 1)
    else if x.text.size > 24 then (21, n + 1)
    else if x.items.length > 6 then (22, n + 1)
    else partL (n + 1) depth x.items) := by
  cases x; simp only [partV]; rfl
mutual
theorem partV_bound : ∀ (x : VT) (n depth : Int), 0 ≤ n → n ≤ 12 → 0 ≤ (partV n depth x).2 ∧ (partV n depth x).2 ≤ 13 ∧ ((partV n depth x).1 = 0 → (partV n depth x).2 ≤ 12)
  | .mk k i s l, n, depth, h0, h1 => by
    simp only [partV]
    split
    · exact ⟨by dsimp only; omega, by dsimp only; omega, fun h => by simp at h⟩
    split
    · exact ⟨by dsimp only; omega, by dsimp only; omega, fun h => by simp at h⟩
    split
    · exact ⟨by dsimp only; omega, by dsimp only; omega, fun h => by simp at h⟩
    split
    · exact ⟨by dsimp only; omega, by dsimp only; omega, fun h => by simp at h⟩
    split
    · exact ⟨by dsimp only; omega, by dsimp only; omega, fun h => by simp at h⟩
    split
    · exact ⟨by dsimp only; omega, by dsimp only; omega, fun h => by simp at h⟩
    exact partL_bound l (n + 1) depth (by omega) (by omega)
theorem partL_bound : ∀ (l : List VT) (n depth : Int), 0 ≤ n → n ≤ 12 → 0 ≤ (partL n depth l).2 ∧ (partL n depth l).2 ≤ 13 ∧ ((partL n depth l).1 = 0 → (partL n depth l).2 ≤ 12)
  | [], n, depth, h0, h1 => by simp only [partL]; exact ⟨h0, by omega, fun _ => h1⟩
  | x :: r, n, depth, h0, h1 => by
    simp only [partL]
    have h := partV_bound x n (depth + 1) h0 h1
    split
    · exact h
    · rename_i he
      exact partL_bound r _ depth h.1 (h.2.2 (by simpa using he))
end
theorem partL_drop {l : List VT} {i : Nat} {x : VT} (n depth : Int) (hx : l[i]? = some x) : partL n depth (l.drop i) = (if (partV n (depth + 1) x).1 ≠ 0 then partV n (depth + 1) x else partL (partV n (depth + 1) x).2 depth (l.drop (i + 1))) := by
  rw [List.drop_eq_getElem?_toList_append, hx]
  simp [partL]
theorem bytesL_nil : (bytesL []).toList = [] := by rw [ByteArray.toList_eq]
theorem part_any (k : Nat) : ∀ (x : VT) (p : Option Addr) (m c : Nat) (w0 w : World) (b : Nat) (n depth : Int), SizeOf.sizeOf x < k → IsV w0 x p m c → Ch No w0 w → w0.heap.size ≤ b → Blk w b [.int .i64 n] 201 → 0 ≤ n → n ≤ 12 → 0 ≤ depth → depth ≤ 3 →
    Calls Tryz.prog 116 #[.pointer (some ⟨b, 0, none⟩), valV x p m c, .int .i64 depth] w fun e w' => e = .returned (.int .i64 (partV n depth x).1) ∧ Ch (· = b) w w' ∧ Blk w' b [.int .i64 (partV n depth x).2] 201 := by
  induction k with
  | zero => intro x p m c w0 w b n depth h; omega
  | succ k ih =>
    intro x p m c w0 w b n depth hk hx h0w hb0 hb n0 n1 d0 d1
    refine calls_of_fnT mixed Tryz.func116 (s := s116) ?_
    unfold valV
    rw [t116, partV_def]
    refine nw fun w1 h1 z1 b1 => ?_
    have hbn : w.heap.size ≠ b := by have := hb.lt; omega
    refine ld_int ((hb.ch h1 (fun h => h)).cell 0) (st_blk (hb.ch h1 (fun h => h)) (by simp) rfl fun w2 h2 z2 b2 => ?_)
    rw [wrap_succ n0 (by omega)] at b2
    have B := b1.ch h2 (fun e => hbn e)
    have H : Ch (· = b) w w2 := h1.no.trans h2
    refine ld_int (b2.cell 0) (br_both (fun e => ?_) fun e => ?_)
    · have : n + 1 > 12 := by simpa using e
      rw [if_pos this]
      exact ⟨rfl, H, b2⟩
    have g1 : ¬ n + 1 > 12 := by simpa using e
    rw [if_neg g1]
    clear e
    refine cut_i mixed s116_4 (fun (v : Bool × Unit) w' => w' = w2 ∧ v.1 = decide (x.kind < 0 ∨ x.kind > 3)) (by kernel_rfl) (fun g => ?_) ?_
    · rw [t116_4]
      refine ld_int (B.cell 0) (br_both (fun e => ⟨rfl, (true, ()), rfl, rfl, ?_⟩) fun e => ld_int (B.cell 0) ⟨rfl, (decide (x.kind > 3), ()), rfl, rfl, ?_⟩)
      · have e := of_decide_eq_true e
        exact (decide_eq_true (Or.inl e)).symm
      · have e := of_decide_eq_false e
        exact decide_eq_decide.2 ⟨fun h => .inr h, fun h => h.resolve_left e⟩
    rintro ⟨u, ⟨⟩⟩ g w' ⟨rfl, hu⟩
    dsimp only at hu
    subst hu
    refine br_both (fun e => ?_) fun e => ?_
    · simp only [decide_eq_true_eq] at e
      rw [if_pos e]
      exact ⟨rfl, H, b2⟩
    simp only [decide_eq_false_iff_not] at e
    rw [if_neg e]
    clear e
    refine cut_i mixed s116_8 (fun (v : Bool × Unit) w'' => w'' = w' ∧ v.1 = decide ((x.int ≠ 0 ∧ x.kind ≠ 1) ∨ (x.text.toList ≠ [] ∧ x.kind ≠ 2) ∨ (0 < x.items.length ∧ x.kind ≠ 3))) (by kernel_rfl) (fun g => ?_) ?_
    · rw [t116_8]
      refine cut_i mixed s116_9 (fun (v : Bool × Unit) w'' => w'' = w' ∧ v.1 = decide (x.int ≠ 0 ∧ x.kind ≠ 1)) (by kernel_rfl) (fun g => ?_) ?_
      · rw [t116_9]
        refine ld_int (B.cell 1) (br_both (fun e => ld_int (B.cell 0) ⟨rfl, (x.kind != 1, ()), rfl, rfl, ?_⟩) fun e => ⟨rfl, (false, ()), rfl, rfl, ?_⟩)
        · rw [bne_iff_ne] at e
          rw [Bool.eq_iff_iff, bne_iff_ne, decide_eq_true_eq]
          exact ⟨fun h => ⟨e, h⟩, fun h => h.2⟩
        · have e : x.int = 0 := by simpa using e
          simp [e]
      rintro ⟨u, ⟨⟩⟩ g w2' ⟨rfl, hu⟩
      dsimp only at hu
      subst hu
      refine br_both (fun e => ⟨rfl, (true, ()), rfl, rfl, ?_⟩) fun e => ?_
      · have e := of_decide_eq_true e
        simp [e]
      have e1 := of_decide_eq_false e
      refine cut_i mixed s116_13 (fun (v : Bool × Unit) w'' => w'' = w2' ∧ v.1 = decide (x.text.toList ≠ [] ∧ x.kind ≠ 2)) (by kernel_rfl) (fun g => ?_) ?_
      · rw [t116_13]
        refine ld_str (B.cell 2) (br_both (fun e => ld_int (B.cell 0) ⟨rfl, (x.kind != 2, ()), rfl, rfl, ?_⟩) fun e => ⟨rfl, (false, ()), rfl, rfl, ?_⟩)
        · have e : ¬ x.text.toList = [] := fun h => by
            rw [h, bytesL_nil] at e
            simp at e
          rw [Bool.eq_iff_iff, bne_iff_ne, decide_eq_true_eq]
          exact ⟨fun h => ⟨e, h⟩, fun h => h.2⟩
        · have e : x.text.toList = [] := by
            have e' : (x.text.toList == (bytesL []).toList) = true := by simpa using e
            rw [bytesL_nil] at e'
            simpa using e'
          exact (decide_eq_false (fun h => h.1 e)).symm
      rintro ⟨u, ⟨⟩⟩ g w3' ⟨rfl, hu⟩
      dsimp only at hu
      subst hu
      refine br_both (fun e => ⟨rfl, (true, ()), rfl, rfl, ?_⟩) fun e => ?_
      · have e := of_decide_eq_true e
        simp [e]
      have e2 := of_decide_eq_false e
      have hl := RIt_len hx.its
      refine ld_sl (B.cell 3) (br_both (fun e => ld_int (B.cell 0) ⟨rfl, (x.kind != 3, ()), rfl, rfl, ?_⟩) fun e => ⟨rfl, (false, ()), rfl, rfl, ?_⟩)
      · have e : 0 < m := by simpa using e
        rw [Bool.eq_iff_iff, bne_iff_ne, decide_eq_true_eq, hl]
        exact ⟨fun h => .inr (.inr ⟨e, h⟩), fun h => (h.resolve_left e1).resolve_left e2 |>.2⟩
      · have e : ¬ 0 < m := by simpa using e
        refine (decide_eq_false fun h => ?_).symm
        rw [hl] at h
        exact e ((h.resolve_left e1).resolve_left e2).1
    rintro ⟨u, ⟨⟩⟩ g w' ⟨rfl, hu⟩
    dsimp only at hu
    subst hu
    refine br_both (fun e => ?_) fun e => ?_
    · rw [if_pos (of_decide_eq_true e)]
      exact ⟨rfl, H, b2⟩
    have g3 := of_decide_eq_false e
    rw [if_neg g3]
    clear e
    refine cut_i mixed s116_20 (fun (v : Bool × Unit) w'' => w'' = w' ∧ v.1 = decide (x.kind = 3 ∧ depth ≥ 3)) (by kernel_rfl) (fun g => ?_) ?_
    · rw [t116_20]
      refine ld_int (B.cell 0) (br_both (fun e => ⟨rfl, (decide (depth ≥ 3), ()), rfl, rfl, ?_⟩) fun e => ⟨rfl, (false, ()), rfl, rfl, ?_⟩)
      · have e : x.kind = 3 := by simpa using e
        simp [e]
      · have e : ¬ x.kind = 3 := by simpa using e
        simp [e]
    rintro ⟨u, ⟨⟩⟩ g w' ⟨rfl, hu⟩
    dsimp only at hu
    subst hu
    refine br_both (fun e => ?_) fun e => ?_
    · rw [if_pos (of_decide_eq_true e)]
      exact ⟨rfl, H, b2⟩
    have hd := of_decide_eq_false e
    rw [if_neg hd]
    clear e
    refine ld_str (B.cell 2) (br_both (fun e => ?_) fun e => ?_)
    · have e : x.text.size > 24 := by have := of_decide_eq_true e; omega
      rw [if_pos e]
      exact ⟨rfl, H, b2⟩
    rw [if_neg (by have := of_decide_eq_false e; omega)]
    have hl := RIt_len hx.its
    refine ld_sl (B.cell 3) (br_both (fun e => ?_) fun e => ?_)
    · have e : m > 6 := by have := of_decide_eq_true e; dsimp only at this; omega
      rw [if_pos (by rw [hl]; exact e)]
      exact ⟨rfl, H, b2⟩
    have hm6 : ¬ m > 6 := by have := of_decide_eq_false e; dsimp only at this; omega
    rw [if_neg (by rw [hl]; exact hm6)]
    refine ld_sl (B.cell 3) ?_
    have hbd := partL_bound x.items (n + 1) depth (by omega) (by omega)
    -- the items
    refine loop_i mixed m116_26 s116_26 (by kernel_rfl) (by kernel_rfl)
      (fun (v : Int × Unit) w'' => 0 ≤ v.1 ∧ v.1 ≤ m ∧ ∃ n' : Int, 0 ≤ n' ∧ n' ≤ 12 ∧ Ch (· = b) w' w'' ∧ Blk w'' b [.int .i64 n'] 201 ∧ partL n' depth (x.items.drop v.1.toNat) = partL (n + 1) depth x.items) (fun (v : Int × Unit) _ => m - v.1.toNat) (0, ()) rfl ⟨by simp, by simp, n + 1, by omega, by omega, Ch.refl _ _, b2, by simp⟩ ?_
    rintro ⟨(i : Int), ⟨⟩⟩ g w'' ⟨(i0 : 0 ≤ i), (i1 : i ≤ m), n', hn0, hn1, hw, bn, hs⟩
    rw [t116_26]
    dsimp only at hs
    have H' : Ch (· = b) w w'' := H.trans hw
    refine br_both (fun e => ?_) fun e => ?_
    · have hi : i < m := by simpa using e
      have hcap := hx.cap
      have hbig := hx.big
      obtain ⟨y, hy⟩ : ∃ u, x.items[i.toNat]? = some u := ⟨_, List.getElem?_eq_getElem (by omega)⟩
      obtain ⟨ad, q, my, cy, rfl, cv, vy⟩ := hx.get hy
      have h0'' : Ch No w0 w'' := h0w.then_ H' (fun i hi (e : i = b) => by omega)
      have C := cv.ch (w' := w'') (fun a v ha => h0''.cellv ha (fun h => h))
      refine ix_i i0 (by simpa using hi) (ld_int C.c0 (ld_int C.c1 (ld_str C.c2 (ld_sl C.c3 ?_))))
      refine nw fun w3 h3 z3 b3 => ?_
      refine st_blk b3 (by simp) rfl fun w4 h4 z4 b4 => st_blk b4 (by simp) rfl fun w5 h5 z5 b5 => st_blk b5 (by simp) rfl fun w6 h6 z6 b6 => st_blk b6 (by simp) rfl fun w7 h7 z7 b7 => ?_
      refine ld_int (b7.cell 0) (ld_int (b7.cell 1) (ld_str (b7.cell 2) (ld_sl (b7.cell 3) ?_)))
      have hne : b ≠ w''.heap.size := by have := bn.lt; omega
      have hS : Ch (· = w''.heap.size) w3 w7 := h4.trans (h5.trans (h6.trans h7))
      have h37 : Ch No w'' w7 := h3.then_ hS (fun i hi (e : i = _) => by omega)
      have hdp : x.kind = 3 → depth ≤ 2 := fun e => by
        have : ¬ depth ≥ 3 := fun h => hd ⟨e, h⟩
        omega
      have hkd : x.kind = 3 := Decidable.byContradiction fun h => g3 (.inr (.inr ⟨by omega, h⟩))
      rw [show IntKind.i64.wrap (depth + 1) = depth + 1 from wrap_succ d0 (by omega)]
      have hsz := VT.size_lt hy
      refine cl_i (ih y q my cy w0 w7 b n' (depth + 1) (by omega) vy (h0''.trans h37) hb0 (bn.ch h37 (fun h => h)) hn0 hn1 (by omega) (by have := hdp hkd; omega)) ?_
      rintro e w8 ⟨rfl, h8, b8⟩
      have hbd' := partV_bound y n' (depth + 1) hn0 hn1
      have hdr := partL_drop n' depth hy
      refine ⟨_, rfl, br_both (fun e => ?_) fun e => ?_⟩
      · rw [bne_iff_ne] at e
        rw [if_pos e] at hdr
        refine ⟨(_, ()), rfl, fun g => ?_⟩
        rw [← hs, hdr]
        exact ⟨rfl, H'.trans (h37.no.trans h8), b8⟩
      · have e : (partV n' (depth + 1) y).1 = 0 := by simpa using e
        rw [if_neg (fun h => h e)] at hdr
        refine ⟨(i + 1, ()), ?_, ⟨by dsimp only; omega, by dsimp only; omega, _, hbd'.1, hbd'.2.2 e, hw.trans (h37.no.trans h8), b8, ?_⟩, by dsimp only; omega⟩
        · rw [wrap_succ i0 (by omega)]; rfl
        · dsimp only
          rw [show (i + 1).toNat = i.toNat + 1 by omega, ← hs, hdr]
    · have hi : ¬ i < m := by simpa using e
      refine ⟨rfl, (), rfl, fun g => ?_⟩
      rw [List.drop_of_length_le (by omega)] at hs
      simp only [partL] at hs
      rw [← hs]
      exact ⟨rfl, H', bn⟩
/-- Check's answer. -/
def checkV (x : VT) : Int := (partV 0 0 x).1
theorem check_any (x : VT) (p : Option Addr) (m c : Nat) (w : World) (hx : IsV w x p m c) :
    Calls Tryz.prog 87 #[valV x p m c] w fun e w' => e = .returned (.int .i64 (checkV x)) ∧ Ch No w w' := by
  refine calls_of_fnT mixed Tryz.func87 (s := s87) ?_
  unfold valV
  rw [t87]
  refine nw fun w1 h1 z1 b1 => nw fun w2 h2 z2 b2 => st_blk b2 (by simp) rfl fun w3 h3 z3 b3 => ?_
  have B := (b1.ch h2 (fun h => h)).ch h3 (fun e => by omega)
  have H : Ch No w w3 := h1.trans (h2.then_ h3 (fun i hi (e : i = _) => by omega))
  refine ld_int (B.cell 0) (ld_int (B.cell 1) (ld_str (B.cell 2) (ld_sl (B.cell 3) ?_)))
  refine cl_i (part_any _ x p m c w w3 w1.heap.size 0 0 (Nat.lt_succ_self _) hx H (by omega) b3 (by omega) (by omega) (by omega) (by omega)) ?_
  rintro e w4 ⟨rfl, h4, b4⟩
  exact ⟨_, rfl, rfl, H.then_ h4 (fun i hi (e : i = _) => by omega)⟩
/-- The value, or none, if it isn't valid. -/
def noneV : VT := .mk 0 0 (bytesL []) []
def validV (x : VT) : VT := if checkV x = 0 then x else noneV
theorem noneV_is (w : World) : IsV w noneV none 0 0 := ⟨Nat.le_refl _, by omega, by simp [RIt, noneV]⟩
theorem valid_any (x : VT) (p : Option Addr) (m c : Nat) (w : World) (hx : IsV w x p m c) :
    Calls Tryz.prog 89 #[valV x p m c] w fun e w' => e = .returned (if checkV x = 0 then valV x p m c else valV noneV none 0 0) ∧ Ch No w w' := by
  refine calls_of_fnT mixed Tryz.func89 (s := s89) ?_
  unfold valV
  rw [t89]
  refine nw fun w1 h1 z1 b1 => nw fun w2 h2 z2 b2 => ?_
  have B := b1.ch h2 (fun h => h)
  have H : Ch No w w2 := h1.trans h2
  refine ld_int (B.cell 0) (ld_int (B.cell 1) (ld_str (B.cell 2) (ld_sl (B.cell 3) ?_)))
  refine cl_i (check_any x p m c w2 (hx.no H)) ?_
  rintro e w3 ⟨rfl, h3⟩
  refine ⟨_, rfl, br_both (fun e => ?_) fun e => ?_⟩
  · rw [bne_iff_ne] at e
    rw [if_neg e]
    refine st_blk (b2.ch h3 (fun h => h)) (by simp) rfl fun w4 h4 z4 b4 => st_blk b4 (by simp) rfl fun w5 h5 z5 b5 => st_blk b5 (by simp) rfl fun w6 h6 z6 b6 => st_blk b6 (by simp) rfl fun w7 h7 z7 b7 => ?_
    refine ld_int (b7.cell 0) (ld_int (b7.cell 1) (ld_str (b7.cell 2) (ld_sl (b7.cell 3) ?_)))
    exact ⟨rfl, (H.trans h3).then_ (h4.trans (h5.trans (h6.trans h7))) (fun i hi (e : i = _) => by omega)⟩
  · have e : checkV x = 0 := by simpa using e
    rw [if_pos e]
    have B3 := B.ch h3 (fun h => h)
    refine ld_int (B3.cell 0) (ld_int (B3.cell 1) (ld_str (B3.cell 2) (ld_sl (B3.cell 3) ?_)))
    refine st_blk (b2.ch h3 (fun h => h)) (by simp) rfl fun w4 h4 z4 b4 => st_blk b4 (by simp) rfl fun w5 h5 z5 b5 => st_blk b5 (by simp) rfl fun w6 h6 z6 b6 => st_blk b6 (by simp) rfl fun w7 h7 z7 b7 => ?_
    refine ld_int (b7.cell 0) (ld_int (b7.cell 1) (ld_str (b7.cell 2) (ld_sl (b7.cell 3) ?_)))
    exact ⟨rfl, (H.trans h3).then_ (h4.trans (h5.trans (h6.trans h7))) (fun i hi (e : i = _) => by omega)⟩
/-! ### eddysize: are there few parts? -/
theorem new_any (w : World) : Calls Tryz.prog 41 #[] w fun e w' => e = .returned (.pointer (some ⟨w.heap.size, 0, none⟩)) ∧ Ch No w w' ∧ Blk w' w.heap.size [.int .i64 10000] 150 := by
  refine calls_of_fnT mixed Tryz.func41 (s := s41) ?_
  rw [t41]
  exact nw fun w1 h1 z1 b1 => ⟨rfl, h1, b1⟩
theorem ok_any (b : Nat) (t : TypeId) (n : Int) (w : World) (hb : Blk w b [.int .i64 n] t) : Calls Tryz.prog 43 #[.pointer (some ⟨b, 0, none⟩)] w fun e w' => e = .returned (.bool (decide (n ≥ 0))) ∧ w' = w := by
  refine calls_of_fnT mixed Tryz.func43 (s := s43) ?_
  rw [t43]
  exact ld_int (hb.cell 0) ⟨rfl, rfl⟩
end Go.Proofs.YtjlmkahagcojcaaGreatDoor
