/- The document's answer: a number of a word; the steps' words. The document's answer: lines and words. The document's answer: a text's lines; a line's words by number. -/
import Derived.Test.YtjlmkahagcojcaaGreatDoorKrt
namespace Go.Proofs.YtjlmkahagcojcaaGreatDoor
open Go Tr
set_option maxRecDepth 100000
/-! the tree of function 62 -/
/-! the tree of function 64 -/
/-! the tree of function 63 -/
end Go.Proofs.YtjlmkahagcojcaaGreatDoor
namespace Go.Proofs.YtjlmkahagcojcaaGreatDoor
open Go Tr
set_option maxRecDepth 100000
/-! the tree of function 61 -/
abbrev fx61_1 (qs0 : ByteArray) (qx1 : Int) : List (Tmp × Value) := [(0, .string qs0), (1, .int .i64 qx1), (4, .slice none 0 0)]
abbrev m61_1 : List (Tmp × Comp) := [(5, .leaf .sl), (6, .leaf (.int .i64)), (7, .leaf (.int .i64))]
abbrev mx61_1 : List (Tmp × Comp) := [(5, .leaf .sl)]
abbrev mr61_1 : List (Tmp × Comp) := []
abbrev fx61_2 (qs0 : ByteArray) (qx1 : Int) (l_5 : Option Addr × Nat × Nat) (x_6 : Int) (x_7 : Int) : List (Tmp × Value) := [(0, .string qs0), (1, .int .i64 qx1), (5, .slice l_5.1 l_5.2.1 l_5.2.2), (6, .int .i64 x_6), (7, .int .i64 x_7)]
abbrev mx61_2 : List (Tmp × Comp) := [(8, .leaf .bool)]
def s61_2 : Script := .sym (.lit (.lit (.lit (.lit .nil)))) (.lit (.lit (.ix (.lit (.lit .nil)))))
theorem t61_2 (qs0 : ByteArray) (qx1 : Int) (l_5 : Option Addr × Nat × Nat) (x_6 : Int) (x_7 : Int) (g : Nat → Value) : pieceT Tryz.prog (at_ Tryz.f61 [1, 1, 1, 0, 1, 0, 0, 1, 0, 0, 0]) 49 (fx61_2 qs0 qx1 l_5 x_6 x_7) g (mx61_2.map (·.1)) [] [] s61_2 = .br (x_7 == (↑qs0.size : Int)) (.fin .normal [(8, .bool true)]) (.bidx qs0 x_7 (fun c3 => .fin .normal [(8, .bool (c3 == 32))])) := by kernel_rfl
abbrev fx61_5 (qs0 : ByteArray) (qx1 : Int) (l_5 : Option Addr × Nat × Nat) (x_6 : Int) (x_7 : Int) (u4 : Bool × Unit) : List (Tmp × Value) := [(0, .string qs0), (1, .int .i64 qx1), (5, .slice l_5.1 l_5.2.1 l_5.2.2), (6, .int .i64 x_6), (7, .int .i64 x_7), (8, .bool u4.1)]
abbrev mx61_5 : List (Tmp × Comp) := [(30, .leaf .bool)]
def s61_5 : Script := .sym (.lit (.lit .nil)) (.lit (.lit .nil))
theorem t61_5 (qs0 : ByteArray) (qx1 : Int) (l_5 : Option Addr × Nat × Nat) (x_6 : Int) (x_7 : Int) (u4 : Bool × Unit) (g : Nat → Value) : pieceT Tryz.prog (at_ Tryz.f61 [1, 1, 1, 0, 1, 0, 0, 1, 0, 0, 1, 0, 0]) 49 (fx61_5 qs0 qx1 l_5 x_6 x_7 u4) g (mx61_5.map (·.1)) [] [] s61_5 = .br (!u4.fst) (.fin .normal [(30, .bool (Decidable.decide (x_6 < 0)))]) (.fin .normal [(30, .bool false)]) := by kernel_rfl
abbrev fx61_7 (qs0 : ByteArray) (qx1 : Int) (l_5 : Option Addr × Nat × Nat) (x_7 : Int) (u4 : Bool × Unit) : List (Tmp × Value) := [(0, .string qs0), (1, .int .i64 qx1), (5, .slice l_5.1 l_5.2.1 l_5.2.2), (6, .int .i64 x_7), (7, .int .i64 x_7), (8, .bool u4.1)]
abbrev mx61_7 : List (Tmp × Comp) := [(36, .leaf .bool)]
def s61_7 : Script := .sym (.lit (.lit .nil)) (.lit (.lit .nil))
theorem t61_7 (qs0 : ByteArray) (qx1 : Int) (l_5 : Option Addr × Nat × Nat) (x_7 : Int) (u4 : Bool × Unit) (g : Nat → Value) : pieceT Tryz.prog (at_ Tryz.f61 [1, 1, 1, 0, 1, 0, 0, 1, 0, 0, 1, 1, 0]) 49 (fx61_7 qs0 qx1 l_5 x_7 u4) g (mx61_7.map (·.1)) [] [] s61_7 = .br u4.1 (.fin .normal [(36, .bool (Decidable.decide (x_7 ≥ 0)))]) (.fin .normal [(36, .bool false)]) := by kernel_rfl
abbrev fx61_11 (qs0 : ByteArray) (qx1 : Int) (l_5 : Option Addr × Nat × Nat) (x_6 : Int) (x_7 : Int) (u4 : Bool × Unit) : List (Tmp × Value) := [(0, .string qs0), (1, .int .i64 qx1), (5, .slice l_5.1 l_5.2.1 l_5.2.2), (6, .int .i64 x_6), (7, .int .i64 x_7), (8, .bool u4.1)]
abbrev mx61_11 : List (Tmp × Comp) := [(36, .leaf .bool)]
def s61_11 : Script := .sym (.lit (.lit .nil)) (.lit (.lit .nil))
theorem t61_11 (qs0 : ByteArray) (qx1 : Int) (l_5 : Option Addr × Nat × Nat) (x_6 : Int) (x_7 : Int) (u4 : Bool × Unit) (g : Nat → Value) : pieceT Tryz.prog (at_ Tryz.f61 [1, 1, 1, 0, 1, 0, 0, 1, 0, 0, 1, 1, 0]) 49 (fx61_11 qs0 qx1 l_5 x_6 x_7 u4) g (mx61_11.map (·.1)) [] [] s61_11 = .br u4.1 (.fin .normal [(36, .bool (Decidable.decide (x_6 ≥ 0)))]) (.fin .normal [(36, .bool false)]) := by kernel_rfl
def s61_1 : Script := .sym (.ct 1 [0, 1, 5, 6, 7] mx61_2 (.ct 1 [0, 1, 5, 6, 7, 8] mx61_5 (.sym (.ct 0 [0, 1, 5, 6, 7, 8] mx61_7 (.sym (.nop (.nop (.nop (.nop (.nd (.nop (.nop (.rn (.one (.leaf .sl)) .nil)))))))) .nil)) (.ct 0 [0, 1, 5, 6, 7, 8] mx61_11 (.sym (.nop (.nop (.nop (.nop (.nd (.nop (.nop (.rn (.one (.leaf .sl)) .nil)))))))) .nil))))) .nil
theorem t61_1 (qs0 : ByteArray) (qx1 : Int) (l_5 : Option Addr × Nat × Nat) (x_6 : Int) (x_7 : Int) (g : Nat → Value) : pieceT Tryz.prog (at_ Tryz.f61 [1, 1, 1, 0, 1, 0, 0]) 49 (fx61_1 qs0 qx1 ++ mvals m61_1 (l_5, x_6, x_7, ())) g (m61_1.map (·.1)) (mx61_1.map (·.1)) (mr61_1.map (·.1)) s61_1 = .br (Decidable.decide (x_7 ≤ (↑qs0.size : Int))) (.cut (at_ Tryz.f61 [1, 1, 1, 0, 1, 0, 0, 1, 0, 0, 0]) 49 (fx61_2 qs0 qx1 l_5 x_6 x_7) mx61_2 (fun u4 g4 => .cut (at_ Tryz.f61 [1, 1, 1, 0, 1, 0, 0, 1, 0, 0, 1, 0, 0]) 49 (fx61_5 qs0 qx1 l_5 x_6 x_7 u4) mx61_5 (fun u6 g6 => .br u6.1 (.cut (at_ Tryz.f61 [1, 1, 1, 0, 1, 0, 0, 1, 0, 0, 1, 1, 0]) 49 (fx61_7 qs0 qx1 l_5 x_7 u4) mx61_7 (fun u8 g8 => .br u8.1 (.need (Decidable.decide (0 ≤ x_7 ∧ x_7 ≤ x_7 ∧ x_7 ≤ (↑qs0.size : Int))) (.new (.cells #[.int .i64 (IntKind.i64.wrap (qx1 + x_7)), .string (qs0.extract x_7.toNat x_7.toNat)] 135 (0, 0)) (fun n9 => .run (builtin .append #[75, 75] 75 #[false, false] #[.slice l_5.1 l_5.2.1 l_5.2.2, .slice (some ⟨n9, 0, none⟩) 1 1]) (.one (.leaf .sl)) (fun l10 => .fin .normal [(5, .slice l10.1 l10.2.1 l10.2.2), (6, .int .i64 (-1)), (7, .int .i64 (IntKind.i64.wrap (x_7 + 1)))])))) (.fin .normal [(5, .slice l_5.1 l_5.2.1 l_5.2.2), (6, .int .i64 x_7), (7, .int .i64 (IntKind.i64.wrap (x_7 + 1)))]))) (.cut (at_ Tryz.f61 [1, 1, 1, 0, 1, 0, 0, 1, 0, 0, 1, 1, 0]) 49 (fx61_11 qs0 qx1 l_5 x_6 x_7 u4) mx61_11 (fun u12 g12 => .br u12.1 (.need (Decidable.decide (0 ≤ x_6 ∧ x_6 ≤ x_7 ∧ x_7 ≤ (↑qs0.size : Int))) (.new (.cells #[.int .i64 (IntKind.i64.wrap (qx1 + x_6)), .string (qs0.extract x_6.toNat x_7.toNat)] 135 (0, 0)) (fun n13 => .run (builtin .append #[75, 75] 75 #[false, false] #[.slice l_5.1 l_5.2.1 l_5.2.2, .slice (some ⟨n13, 0, none⟩) 1 1]) (.one (.leaf .sl)) (fun l14 => .fin .normal [(5, .slice l14.1 l14.2.1 l14.2.2), (6, .int .i64 (-1)), (7, .int .i64 (IntKind.i64.wrap (x_7 + 1)))])))) (.fin .normal [(5, .slice l_5.1 l_5.2.1 l_5.2.2), (6, .int .i64 x_6), (7, .int .i64 (IntKind.i64.wrap (x_7 + 1)))])))))) (.fin (.exit 0) [(5, .slice l_5.1 l_5.2.1 l_5.2.2)]) := by kernel_rfl
def s61 : Script := .lp 0 [0, 1, 4] [5, 6, 7] mx61_1 mr61_1 .nil .nil
theorem t61 (qs0 : ByteArray) (qx1 : Int) : fnT Tryz.prog Tryz.f61 #[.string qs0, .int .i64 qx1] s61 = .loop (at_ Tryz.f61 [1, 1, 1, 0, 1, 0, 0]) 49 (fx61_1 qs0 qx1) [(5, .slice none 0 0), (6, .int .i64 (-1)), (7, .int .i64 0)] mx61_1 mr61_1 0 (fun u15 g15 => .done (.returned (.slice u15.1.1 u15.1.2.1 u15.1.2.2))) (fun u16 g16 => .stuck) := by kernel_rfl
/-! the tree of function 23 -/
abbrev fx23_1 (qs0 : ByteArray) : List (Tmp × Value) := [(0, .string qs0), (2, .slice none 0 0)]
abbrev m23_1 : List (Tmp × Comp) := [(3, .leaf .sl), (4, .leaf (.int .i64)), (5, .leaf (.int .i64))]
abbrev mx23_1 : List (Tmp × Comp) := [(3, .leaf .sl)]
abbrev mr23_1 : List (Tmp × Comp) := []
abbrev fx23_2 (qs0 : ByteArray) (l_3 : Option Addr × Nat × Nat) (x_4 : Int) (x_5 : Int) : List (Tmp × Value) := [(0, .string qs0), (3, .slice l_3.1 l_3.2.1 l_3.2.2), (4, .int .i64 x_4), (5, .int .i64 x_5)]
abbrev mx23_2 : List (Tmp × Comp) := [(22, .leaf .bool)]
def s23_2 : Script := .sym (.lit (.lit (.lit (.lit .nil)))) (.lit (.lit (.ix (.lit (.lit .nil)))))
theorem t23_2 (qs0 : ByteArray) (l_3 : Option Addr × Nat × Nat) (x_4 : Int) (x_5 : Int) (g : Nat → Value) : pieceT Tryz.prog (at_ Tryz.f23 [1, 1, 1, 0, 1, 0, 0, 1, 0, 0, 0]) 37 (fx23_2 qs0 l_3 x_4 x_5) g (mx23_2.map (·.1)) [] [] s23_2 = .br (x_5 == (↑qs0.size : Int)) (.fin .normal [(22, .bool true)]) (.bidx qs0 x_5 (fun c3 => .fin .normal [(22, .bool (c3 == 10))])) := by kernel_rfl
def s23_1 : Script := .sym (.ct 1 [0, 3, 4, 5] mx23_2 (.sym (.nd (.cl (.one (.leaf .sl)) (.nop (.nop (.rn (.one (.leaf .sl)) .nil))))) .nil)) .nil
theorem t23_1 (qs0 : ByteArray) (l_3 : Option Addr × Nat × Nat) (x_4 : Int) (x_5 : Int) (g : Nat → Value) : pieceT Tryz.prog (at_ Tryz.f23 [1, 1, 1, 0, 1, 0, 0]) 37 (fx23_1 qs0 ++ mvals m23_1 (l_3, x_4, x_5, ())) g (m23_1.map (·.1)) (mx23_1.map (·.1)) (mr23_1.map (·.1)) s23_1 = .br (Decidable.decide (x_5 ≤ (↑qs0.size : Int))) (.cut (at_ Tryz.f23 [1, 1, 1, 0, 1, 0, 0, 1, 0, 0, 0]) 37 (fx23_2 qs0 l_3 x_4 x_5) mx23_2 (fun u4 g4 => .br u4.1 (.need (Decidable.decide (0 ≤ x_4 ∧ x_4 ≤ x_5 ∧ x_5 ≤ (↑qs0.size : Int))) (.call 61 #[.string (qs0.extract x_4.toNat x_5.toNat), .int .i64 0] (.one (.leaf .sl)) (fun l5 => .new (.cells #[.string (qs0.extract x_4.toNat x_5.toNat), .slice l5.1 l5.2.1 l5.2.2] 77 (0, 0)) (fun n6 => .run (builtin .append #[70, 70] 70 #[false, false] #[.slice l_3.1 l_3.2.1 l_3.2.2, .slice (some ⟨n6, 0, none⟩) 1 1]) (.one (.leaf .sl)) (fun l7 => .fin .normal [(3, .slice l7.1 l7.2.1 l7.2.2), (4, .int .i64 (IntKind.i64.wrap (x_5 + 1))), (5, .int .i64 (IntKind.i64.wrap (x_5 + 1)))]))))) (.fin .normal [(3, .slice l_3.1 l_3.2.1 l_3.2.2), (4, .int .i64 x_4), (5, .int .i64 (IntKind.i64.wrap (x_5 + 1)))]))) (.fin (.exit 0) [(3, .slice l_3.1 l_3.2.1 l_3.2.2)]) := by kernel_rfl
def s23 : Script := .lp 0 [0, 2] [3, 4, 5] mx23_1 mr23_1 .nil .nil
theorem t23 (qs0 : ByteArray) : fnT Tryz.prog Tryz.f23 #[.string qs0] s23 = .loop (at_ Tryz.f23 [1, 1, 1, 0, 1, 0, 0]) 37 (fx23_1 qs0) [(3, .slice none 0 0), (4, .int .i64 0), (5, .int .i64 0)] mx23_1 mr23_1 0 (fun u8 g8 => .done (.returned (.slice u8.1.1 u8.1.2.1 u8.1.2.2))) (fun u9 g9 => .stuck) := by kernel_rfl
/-! the tree of function 24 -/
def s24 : Script := .ld .sl (.sym (.lit (.lit (.lit (.lit (.lit (.lit (.lit .nil))))))) (.lit (.ld .sl (.lit (.ix (.lit (.lit (.ld .str (.lit (.ix (.lit (.lit .nil))))))))))))
theorem t24 (qs0_0 : ByteArray) (qa0_1 : Option Addr) (qn0_1 : Nat) (qc0_1 : Nat) : fnT Tryz.prog Tryz.f24 #[.agg #[.string qs0_0, .slice qa0_1 qn0_1 qc0_1]] s24 = .new (.cells #[.string qs0_0, .slice qa0_1 qn0_1 qc0_1] 77 (0, 0)) (fun n1 => .load ⟨n1, 1, none⟩ .sl (fun l2 => .br ((↑l2.snd.fst : Int) == 0) (.done (.returned (.bool true))) (.load ⟨n1, 1, none⟩ .sl (fun l3 => .idx l3.1 0 l3.2.1 2 (fun a4 => .load (a4.add 1) .str (fun s5 => .bidx s5 0 (fun c6 => .done (.returned (.bool (c6 == 35)))))))))) := by kernel_rfl
/-! the tree of function 25 -/
/-! the tree of function 29 -/
def s29 : Script := .ld .sl (.sym (.ld .sl (.ix (.ld (.int .i64) .nil))) (.ld .str .nil))
theorem t29 (qs0_0 : ByteArray) (qa0_1 : Option Addr) (qn0_1 : Nat) (qc0_1 : Nat) (qx1 : Int) : fnT Tryz.prog Tryz.f29 #[.agg #[.string qs0_0, .slice qa0_1 qn0_1 qc0_1], .int .i64 qx1] s29 = .new (.cells #[.string qs0_0, .slice qa0_1 qn0_1 qc0_1] 77 (0, 0)) (fun n1 => .load ⟨n1, 1, none⟩ .sl (fun l2 => .br (Decidable.decide (qx1 < (↑l2.snd.fst : Int))) (.load ⟨n1, 1, none⟩ .sl (fun l3 => .idx l3.1 qx1 l3.2.1 2 (fun a4 => .load a4 (.int .i64) (fun x5 => .done (.returned (.int .i64 x5)))))) (.load ⟨n1, 0, none⟩ .str (fun s6 => .done (.returned (.int .i64 (↑s6.size : Int))))))) := by kernel_rfl
abbrev tWord : TypeId := 135
abbrev tLine : TypeId := 77
/-! ### Words, with their places -/
def wordsF (L : Nat) : Nat → List UInt8 → List (Nat × List UInt8)
  | 0, _ => []
  | k + 1, r => if skipS r = [] then [] else (L - (skipS r).length, wordS r) :: wordsF L k (afterS r)
theorem words_fuel (L : Nat) : ∀ (f g : Nat) (r : List UInt8), r.length < f → r.length < g → wordsF L f r = wordsF L g r
  | 0, _, r, h, _ => by omega
  | _, 0, r, _, h => by omega
  | f + 1, g + 1, r, h1, h2 => by
    unfold wordsF
    by_cases hs : skipS r = []
    · rw [if_pos hs, if_pos hs]
    · have := after_lt hs
      rw [if_neg hs, if_neg hs, words_fuel L f g (afterS r) (by omega) (by omega)]
def wordsR (L : Nat) (r : List UInt8) : List (Nat × List UInt8) := wordsF L (r.length + 1) r
theorem wordsR_nil {L : Nat} {r : List UInt8} (h : skipS r = []) : wordsR L r = [] := by unfold wordsR wordsF; rw [if_pos h]
theorem wordsR_cons {L : Nat} {r : List UInt8} (h : skipS r ≠ []) : wordsR L r = (L - (skipS r).length, wordS r) :: wordsR L (afterS r) := by
  have := after_lt h
  unfold wordsR
  rw [wordsF, if_neg h, words_fuel L r.length ((afterS r).length + 1) _ (by omega) (by omega)]
theorem wordsR_skip {L : Nat} {r r' : List UInt8} (h : skipS r = skipS r') : wordsR L r = wordsR L r' := by
  by_cases hs : skipS r = []
  · rw [wordsR_nil hs, wordsR_nil (r := r') (by rw [← h]; exact hs)]
  · rw [wordsR_cons hs, wordsR_cons (r := r') (by rw [← h]; exact hs)]
    have e1 : wordS r = wordS r' := by unfold wordS; rw [h]
    have e2 : afterS r = afterS r' := by unfold afterS; rw [h]
    rw [h, e1, e2]
def aft : Nat → List UInt8 → List UInt8
  | 0, r => r
  | k + 1, r => aft k (afterS r)
theorem after_nil {r : List UInt8} (h : skipS r = []) : afterS r = [] := by unfold afterS; rw [h]; rfl
theorem words_get (L : Nat) : ∀ (k : Nat) (r : List UInt8), (wordsR L r)[k]? = if skipS (aft k r) = [] then none else some (L - (skipS (aft k r)).length, wordS (aft k r))
  | 0, r => by
    show (wordsR L r)[0]? = if skipS r = [] then none else some (L - (skipS r).length, wordS r)
    by_cases h : skipS r = []
    · rw [wordsR_nil h, if_pos h]; rfl
    · rw [wordsR_cons h, if_neg h]; rfl
  | k + 1, r => by
    show _ = if skipS (aft k (afterS r)) = [] then none else some (L - (skipS (aft k (afterS r))).length, wordS (aft k (afterS r)))
    by_cases h : skipS r = []
    · have h2 : ∀ k, aft k ([] : List UInt8) = [] := fun k => by
        induction k with
        | zero => rfl
        | succ k ih => exact ih
      rw [wordsR_nil h, after_nil h, h2, if_pos (show skipS [] = [] from rfl)]; rfl
    · rw [wordsR_cons h, List.getElem?_cons_succ, words_get L k (afterS r)]
/-- A word stands there just where the line isn't at its end. -/
theorem words_lt (L k : Nat) (r : List UInt8) : k < (wordsR L r).length ↔ skipS (aft k r) ≠ [] := by
  have h := words_get L k r
  constructor
  · intro hk hs
    rw [if_pos hs, List.getElem?_eq_getElem hk] at h
    cases h
  · intro hs
    rw [if_neg hs] at h
    exact (List.getElem?_eq_some_iff.1 h).1
/-! ### in memory -/
def wordCells (ws : List (Nat × List UInt8)) : List Value := ws.flatMap fun x => [.int .i64 x.1, .string (bytesL x.2)]
theorem wordCells_len (ws : List (Nat × List UInt8)) : (wordCells ws).length = ws.length * 2 := by
  induction ws with
  | nil => rfl
  | cons x ws ih => simp only [wordCells, List.flatMap_cons, List.length_append, List.length_cons, List.length_nil] at ih ⊢; omega
theorem wordCells_get {ws : List (Nat × List UInt8)} : ∀ {j : Nat} {x : Nat × List UInt8}, ws[j]? = some x → (wordCells ws)[j * 2]? = some (.int .i64 x.1) ∧ (wordCells ws)[j * 2 + 1]? = some (.string (bytesL x.2)) := by
  induction ws with
  | nil => intro j x h; simp at h
  | cons y ws ih =>
    intro j x h
    have e : wordCells (y :: ws) = .int .i64 y.1 :: .string (bytesL y.2) :: wordCells ws := rfl
    cases j with
    | zero => simp at h; subst h; exact ⟨rfl, rfl⟩
    | succ j =>
      rw [List.getElem?_cons_succ] at h
      obtain ⟨h1, h2⟩ := ih h
      rw [e, show (j + 1) * 2 = j * 2 + 1 + 1 by omega]
      exact ⟨h1, h2⟩
theorem wordCells_app (a b : List (Nat × List UInt8)) : wordCells (a ++ b) = wordCells a ++ wordCells b := by unfold wordCells; rw [List.flatMap_append]
def AtW (w : World) (p : Option Addr) (n : Nat) (ws : List (Nat × List UInt8)) : Prop := ws.length = n ∧ (0 < n → ∃ g o, p = some ⟨g, o, none⟩ ∧ ∀ (j : Nat) (x : Nat × List UInt8), ws[j]? = some x → w.cell? ⟨g, o + j * 2, none⟩ = some (.int .i64 x.1) ∧ w.cell? ⟨g, o + j * 2 + 1, none⟩ = some (.string (bytesL x.2)))
theorem AtW.no {w w' : World} {p : Option Addr} {n : Nat} {ws : List (Nat × List UInt8)} (h : AtW w p n ws) (hc : Ch No w w') : AtW w' p n ws := ⟨h.1, fun hn => by
  obtain ⟨g, o, e, hj⟩ := h.2 hn
  exact ⟨g, o, e, fun j u hu => ⟨hc.cellv (hj j u hu).1 (fun h => h), hc.cellv (hj j u hu).2 (fun h => h)⟩⟩⟩
theorem AtW.row {w : World} {base : Nat} {p : Option Addr} {n c : Nat} {ws : List (Nat × List UInt8)} (h : Row w base tWord 2 p n c (wordCells ws)) : AtW w p n ws := by
  have h1 := h.len
  rw [wordCells_len] at h1
  refine ⟨by omega, fun hn => ?_⟩
  obtain ⟨g, e, _, hc⟩ := h.get hn
  refine ⟨g, 0, e, fun j x hx => ?_⟩
  obtain ⟨h1, h2⟩ := wordCells_get hx
  simp only [Nat.zero_add]
  exact ⟨hc _ _ h1, hc _ _ h2⟩
theorem infoWord : (Tryz.prog.info? tWord).map (fun i => (i.zero, i.size, i.bytes)) = some (some (.agg #[.int .i64 0, .string (bytesL [])]), 2, 24) := by kernel_rfl
theorem infoLine : (Tryz.prog.info? tLine).map (fun i => (i.zero, i.size, i.bytes)) = some (some (.agg #[.string (bytesL []), .slice none 0 0]), 2, 40) := by kernel_rfl
theorem ext_list (s : ByteArray) (i j : Nat) : (s.extract i j).data.toList = (s.data.toList.drop i).take (j - i) := by
  rw [ByteArray.data_extract, Array.toList_extract, List.extract_eq_take_drop]
theorem drop_cons {l : List UInt8} {i : Nat} {c : UInt8} (h : l[i]? = some c) : l.drop i = c :: l.drop (i + 1) := by
  obtain ⟨hi, e⟩ := List.getElem?_eq_some_iff.1 h
  rw [List.drop_eq_getElem_cons hi, e]
theorem byte_at (s : ByteArray) {i : Nat} {c : UInt8} (h : s.data.toList[i]? = some c) : ∃ hi : i < s.size, s[i]'hi = c := by
  obtain ⟨hi, e⟩ := List.getElem?_eq_some_iff.1 h
  exact ⟨hi, e⟩
theorem take_snoc {l : List UInt8} {i n : Nat} {c : UInt8} (h : l[i + n]? = some c) : (l.drop i).take (n + 1) = (l.drop i).take n ++ [c] := by
  rw [List.take_add_one, List.getElem?_drop, h]; rfl
/-- cut: a line's words. -/
theorem rcut_any (s : ByteArray) (hs : s.size ≤ 10000) (w : World) : Calls Tryz.prog 61 #[.string s, .int .i64 0] w fun e w' => Ch No w w' ∧ ∃ p n c, e = .returned (.slice p n c) ∧ Row w' w.heap.size tWord 2 p n c (wordCells (wordsR s.size s.data.toList)) ∧ n ≤ 10001 := by
  refine calls_of_fnT mixed Tryz.func61 (s := s61) ?_
  rw [t61]
  generalize hl : s.data.toList = l
  have hz : s.size = l.length := by rw [← hl]; rfl
  rw [hz]
  refine loop_i mixed m61_1 s61_1 (by kernel_rfl) (by kernel_rfl)
    (fun (v : (Option Addr × Nat × Nat) × Int × Int × Unit) w' => ∃ (i : Nat) (ws : List (Nat × List UInt8)), v.2.2.1 = i ∧ i ≤ l.length + 1 ∧ Ch No w w' ∧ Row w' w.heap.size tWord 2 v.1.1 v.1.2.1 v.1.2.2 (wordCells ws) ∧ ws.length ≤ i ∧
      ((v.2.1 = -1 ∧ wordsR l.length l = ws ++ wordsR l.length (l.drop i)) ∨ (∃ from_ : Nat, v.2.1 = from_ ∧ from_ < i ∧ i ≤ l.length ∧ wordsR l.length l = ws ++ (from_, (l.drop from_).take (i - from_) ++ tw (l.drop i)) :: wordsR l.length (dw (l.drop i))))) (fun (v : (Option Addr × Nat × Nat) × Int × Int × Unit) _ => l.length + 1 - v.2.2.1.toNat) ((none, 0, 0), -1, 0, ()) rfl ⟨0, [], rfl, by omega, Ch.refl _ _, Row.nil _ _ _ _, by simp, .inl ⟨rfl, rfl⟩⟩ ?_
  rintro ⟨⟨p, n, c⟩, (fr : Int), x, ⟨⟩⟩ g w1 ⟨i, ws, (rfl : x = i), hi, h1, hrow, hwl, hst⟩
  rw [t61_1]
  dsimp only at hrow hst
  have hnl := hrow.len
  rw [wordCells_len] at hnl
  -- the end of the line
  refine br_both (fun e => ?_) fun e => ?_
  · have hil : i ≤ l.length := by have := le_t e; omega
    refine cut_i mixed s61_2 (fun (v : Bool × Unit) w' => w' = w1 ∧ v.1 = (decide (i = l.length) || decide (l[i]? = some 32))) (by kernel_rfl) (fun g => ?_) ?_
    · rw [t61_2]
      refine br_both (fun e => ⟨rfl, (_, ()), rfl, rfl, ?_⟩) fun e => ?_
      · have : (i : Int) = (s.size : Int) := eq_t e
        rw [decide_eq_true (show i = l.length by omega)]; rfl
      · have hne : (i : Int) ≠ (s.size : Int) := eq_f e
        have hlt : i < l.length := by omega
        obtain ⟨c0, hc0⟩ : ∃ u, l[i]? = some u := ⟨_, List.getElem?_eq_getElem hlt⟩
        obtain ⟨hb1, hb2⟩ := byte_at s (by rw [hl]; exact hc0)
        refine bi_i (by omega) (by rw [Int.toNat_natCast]; exact hb1) ⟨rfl, (_, ()), rfl, rfl, ?_⟩
        simp only [Int.toNat_natCast]
        rw [hb2, byte32, decide_eq_false (show ¬ i = l.length by omega), Bool.false_or, hc0]
        by_cases h32 : c0 = 32
        · subst h32; rfl
        · rw [beq_eq_false_iff_ne.2 h32, decide_eq_false (by simpa using h32)]
    rintro ⟨u, ⟨⟩⟩ g w2 ⟨rfl, hu⟩
    dsimp only at hu
    have wi : IntKind.i64.wrap ((i : Int) + 1) = ((i + 1 : Nat) : Int) := by rw [wrap_succ (by omega) (by omega)]; omega
    -- no blank: what the byte is
    have nb : u = false → ∃ c0, l[i]? = some c0 ∧ c0 ≠ 32 ∧ i < l.length := fun h => by
      rw [h] at hu
      have hu := hu.symm
      rw [Bool.or_eq_false_iff] at hu
      have hlt : i < l.length := by have := of_decide_eq_false hu.1; omega
      obtain ⟨c0, hc0⟩ : ∃ u, l[i]? = some u := ⟨_, List.getElem?_eq_getElem hlt⟩
      exact ⟨c0, hc0, fun h => of_decide_eq_false hu.2 (by rw [hc0, h]), hlt⟩
    have bl : u = true → (l[i]? = some 32 ∨ l.length ≤ i) := fun h => by
      rw [h] at hu
      rcases Bool.or_eq_true_iff.1 hu.symm with h | h
      · exact .inr (by have := of_decide_eq_true h; omega)
      · exact .inl (of_decide_eq_true h)
    refine cut_i mixed s61_5 (fun (v : Bool × Unit) w' => w' = w2 ∧ v.1 = (!u && decide (fr < 0))) (by kernel_rfl) (fun g => ?_) ?_
    · rw [t61_5]
      cases u
      · exact br_true rfl ⟨rfl, (_, ()), rfl, rfl, rfl⟩
      · exact br_false rfl ⟨rfl, (_, ()), rfl, rfl, rfl⟩
    rintro ⟨u2, ⟨⟩⟩ g w3 ⟨rfl, hu2⟩
    dsimp only at hu2
    refine br_both (fun e => ?_) fun e => ?_
    · -- a word begins
      have e : u2 = true := e
      rw [e] at hu2
      have hb := Bool.and_eq_true_iff.1 hu2.symm
      have hu0 : u = false := by simpa using hb.1
      subst hu0
      obtain ⟨c0, hc0, hc32, hlt⟩ := nb rfl
      have hfr : fr = -1 ∧ wordsR l.length l = ws ++ wordsR l.length (l.drop i) := by
        rcases hst with h | ⟨f, hf, _⟩
        · exact h
        · have := of_decide_eq_true hb.2; omega
      refine cut_i mixed s61_7 (fun (v : Bool × Unit) w' => w' = w3 ∧ v.1 = false) (by kernel_rfl) (fun g => ?_) ?_
      · rw [t61_7]
        exact br_false rfl ⟨rfl, (_, ()), rfl, rfl, rfl⟩
      rintro ⟨u3, ⟨⟩⟩ g w4 ⟨rfl, rfl⟩
      refine br_false rfl ?_
      have hdc := drop_cons hc0
      have hsk : skipS (l.drop i) = l.drop i := skip_stop hc0 hc32
      obtain ⟨ht, hd⟩ := tw_in hc0 hc32
      refine ⟨((p, n, c), (i : Int), ((i + 1 : Nat) : Int), ()), ?_, ⟨i + 1, ws, rfl, by omega, h1, hrow, by omega, .inr ⟨i, rfl, by omega, by omega, ?_⟩⟩, by dsimp only; omega⟩
      · rw [wi]; rfl
      · rw [hfr.2, wordsR_cons (by rw [hsk, hdc]; simp)]
        congr 2
        · rw [hsk]
          have e1 : wordS (l.drop i) = tw (l.drop i) := by unfold wordS tw; rw [hsk]
          rw [e1, ht, show i + 1 - i = 1 by omega, hdc, List.take_succ_cons, List.take_zero, List.length_cons, List.length_drop]
          congr 1
          omega
        · have e2 : afterS (l.drop i) = dw (l.drop i) := by unfold afterS dw; rw [hsk]
          rw [e2, hd]
    · have e : u2 = false := e
      rw [e] at hu2
      refine cut_i mixed s61_11 (fun (v : Bool × Unit) w' => w' = w3 ∧ v.1 = (u && decide (0 ≤ fr))) (by kernel_rfl) (fun g => ?_) ?_
      · rw [t61_11]
        cases u
        · exact br_false rfl ⟨rfl, (_, ()), rfl, rfl, rfl⟩
        · exact br_true rfl ⟨rfl, (_, ()), rfl, rfl, rfl⟩
      rintro ⟨u3, ⟨⟩⟩ g w4 ⟨rfl, hu3⟩
      dsimp only at hu3
      refine br_both (fun e3 => ?_) fun e3 => ?_
      · -- a word ends
        have e3 : u3 = true := e3
        rw [e3] at hu3
        have hb := Bool.and_eq_true_iff.1 hu3.symm
        have hbl := bl hb.1
        have hf0 := of_decide_eq_true hb.2
        obtain ⟨f, hf, hfi, _, hws⟩ : ∃ from_ : Nat, fr = from_ ∧ from_ < i ∧ i ≤ l.length ∧ wordsR l.length l = ws ++ (from_, (l.drop from_).take (i - from_) ++ tw (l.drop i)) :: wordsR l.length (dw (l.drop i)) := by
          rcases hst with h | h
          · omega
          · exact h
        subst hf
        obtain ⟨ht, hd⟩ := tw_stop hbl
        rw [ht, hd, List.append_nil] at hws
        refine nd3 (by omega) (by omega) (by show (i : Int) ≤ (s.size : Int); omega) ?_
        rw [wrap_in (x := 0 + (f : Int)) (by omega) (by omega), Int.zero_add, Int.toNat_natCast, Int.toNat_natCast]
        refine nw fun w5 h5 z5 b5 => ?_
        have hex : s.extract f i = bytesL ((l.drop f).take (i - f)) := ba_eq (by rw [ext_list, hl])
        rw [hex] at b5
        refine ap_blk (by kernel_rfl) infoWord rfl (by omega) (hrow.no h5) (by have := h1.size; have := h5.size; omega) b5 (by simp) (fun u hu => by simp at hu; rcases hu with rfl | rfl <;> rfl) (by unfold maxLen; omega) (by omega) fun q' d' w6 g6 => ?_
        have hch : Ch No w w6 := (h1.trans h5).then_ g6.ch (fun k hk h => by have := (hrow.lt h).1; omega)
        refine ⟨((q', n + 1, d'), -1, ((i + 1 : Nat) : Int), ()), ?_, ⟨i + 1, ws ++ [(f, (l.drop f).take (i - f))], rfl, by omega, hch, ?_, by rw [List.length_append, List.length_singleton]; omega, .inl ⟨rfl, ?_⟩⟩, by dsimp only; omega⟩
        · rw [wi]; rfl
        · rw [wordCells_app]; exact g6.own
        · rw [hws, List.append_assoc]
          congr 1
          show _ :: _ = _ :: _
          congr 1
          show wordsR l.length (l.drop i) = wordsR l.length (l.drop (i + 1))
          rcases hbl with h | h
          · exact wordsR_skip (skip_sp h)
          · rw [List.drop_of_length_le h, List.drop_of_length_le (by omega)]
      · -- nothing
        have e3 : u3 = false := e3
        rw [e3] at hu3
        refine ⟨((p, n, c), fr, ((i + 1 : Nat) : Int), ()), ?_, ⟨i + 1, ws, rfl, by omega, h1, hrow, by omega, ?_⟩, by dsimp only; omega⟩
        · rw [wi]; rfl
        · rcases hst with ⟨hf, hws⟩ | ⟨f, hf, hfi, _, hws⟩
          · left
            refine ⟨hf, ?_⟩
            have hu1 : u = true := by
              cases u with
              | true => rfl
              | false =>
                rw [hf] at hu2
                exact absurd hu2.symm (by decide)
            rw [hws]
            congr 1
            rcases bl hu1 with h | h
            · exact wordsR_skip (skip_sp h)
            · rw [List.drop_of_length_le h, List.drop_of_length_le (by omega)]
          · right
            have hu1 : u = false := by
              cases u with
              | false => rfl
              | true =>
                rw [hf, decide_eq_true (by omega)] at hu3
                exact absurd hu3.symm (by decide)
            obtain ⟨c0, hc0, hc32, hlt⟩ := nb hu1
            obtain ⟨ht, hd⟩ := tw_in hc0 hc32
            refine ⟨f, hf, by omega, by omega, ?_⟩
            rw [hws, ht, hd]
            congr 3
            rw [show i + 1 - f = (i - f) + 1 by omega, take_snoc (c := c0) (by rw [show f + (i - f) = i by omega]; exact hc0), List.append_assoc]
            rfl
  · have hil : l.length < i := by have := le_f e; omega
    obtain ⟨hf, hws⟩ : fr = -1 ∧ wordsR l.length l = ws ++ wordsR l.length (l.drop i) := by
      rcases hst with h | ⟨f, _, _, h, _⟩
      · exact h
      · omega
    rw [List.drop_of_length_le (by omega), wordsR_nil (show skipS [] = [] from rfl), List.append_nil] at hws
    refine ⟨rfl, ((p, n, c), ()), rfl, fun g => ⟨h1, p, n, c, rfl, ?_, by omega⟩⟩
    rw [hws]
    exact hrow
end Go.Proofs.YtjlmkahagcojcaaGreatDoor
namespace Go.Proofs.YtjlmkahagcojcaaGreatDoor
open Go Tr
set_option maxRecDepth 100000
def lineV (s : ByteArray) (p : Option Addr) (n c : Nat) : Value := .agg #[.string s, .slice p n c]
theorem rat_any (s : ByteArray) (p : Option Addr) (n c k : Nat) (w : World) (h : AtW w p n (wordsR s.size s.data.toList)) :
    Calls Tryz.prog 29 #[lineV s p n c, .int .i64 k] w fun e w' => e = .returned (.int .i64 ((s.size - (skipS (aft k s.data.toList)).length : Nat) : Int)) ∧ Ch No w w' := by
  unfold lineV
  refine calls_of_fnT mixed Tryz.func29 (s := s29) ?_
  rw [t29]
  have hg := words_get s.size k s.data.toList
  have hlt := words_lt s.size k s.data.toList
  have hn := h.1
  refine nw fun w1 h1 z1 b1 => ld_sl (b1.cell 1) (br_both (fun e => ?_) fun e => ?_)
  · have e : k < n := by have := lt_t e; dsimp only at this; omega
    have hne := hlt.1 (by omega)
    rw [if_neg hne] at hg
    obtain ⟨g, o, rfl, hc⟩ := (h.no h1).2 (by omega)
    refine ld_sl (b1.cell 1) (ix_i (by omega) (by show (k : Int) < (n : Int); omega) ?_)
    rw [addr_add, Int.toNat_natCast]
    exact ld_int (hc k _ hg).1 ⟨rfl, h1⟩
  · have e : n ≤ k := by have := lt_f e; dsimp only at this; omega
    have : skipS (aft k s.data.toList) = [] := Decidable.byContradiction fun h => by have := hlt.2 h; omega
    refine ld_str (b1.cell 0) ⟨?_, h1⟩
    rw [this, List.length_nil, Nat.sub_zero]
theorem word_head {r : List UInt8} {c : UInt8} {t : List UInt8} (h : skipS r = c :: t) : ∃ t', wordS r = c :: t' := by
  have hc : c ≠ 32 := by
    have := List.head?_dropWhile_not (p := (· == (32 : UInt8))) (l := r)
    rw [show r.dropWhile (· == 32) = c :: t from h] at this
    simpa using this
  unfold wordS
  rw [h, List.takeWhile_cons, if_pos (by simpa using hc)]
  exact ⟨_, rfl⟩
theorem rpassed_any (s : ByteArray) (p : Option Addr) (n c : Nat) (w : World) (h : AtW w p n (wordsR s.size s.data.toList)) :
    Calls Tryz.prog 24 #[lineV s p n c] w fun e w' => e = .returned (.bool (passed s.data.toList)) ∧ Ch No w w' := by
  unfold lineV
  refine calls_of_fnT mixed Tryz.func24 (s := s24) ?_
  rw [t24]
  have hg := words_get s.size 0 s.data.toList
  have hlt := words_lt s.size 0 s.data.toList
  have hn := h.1
  unfold passed
  refine nw fun w1 h1 z1 b1 => ld_sl (b1.cell 1) (br_both (fun e => ?_) fun e => ?_)
  · have e : n = 0 := by have := eq_t e; dsimp only at this; omega
    have : skipS s.data.toList = [] := Decidable.byContradiction fun h => by have := hlt.2 h; omega
    rw [this]
    exact ⟨rfl, h1⟩
  · have e : n ≠ 0 := fun h => eq_f e (by dsimp only; omega)
    have hne : skipS s.data.toList ≠ [] := hlt.1 (by omega)
    have hg : (wordsR s.size s.data.toList)[0]? = some (s.size - (skipS s.data.toList).length, wordS s.data.toList) := by
      rw [hg]; exact if_neg hne
    obtain ⟨g, o, rfl, hc⟩ := (h.no h1).2 (by omega)
    refine ld_sl (b1.cell 1) (ix_i (by decide) (by show (0 : Int) < (n : Int); omega) ?_)
    rw [addr_add, addr_add]
    refine ld_str (hc 0 _ hg).2 ?_
    cases hs : skipS s.data.toList with
    | nil => exact absurd hs hne
    | cons c t =>
      obtain ⟨t', ht⟩ := word_head hs
      dsimp only
      rw [ht]
      refine bi_i (by decide) (by rw [tb_size]; simp) ⟨?_, h1⟩
      have : (bytesL (c :: t'))[(0 : Int).toNat]'(by rw [tb_size]; simp) = c := rfl
      rw [this]
      by_cases h35 : c = 35
      · subst h35; rfl
      · have h1 : ¬ ((c.toNat : Int) = 35) := fun e => h35 (UInt8.toNat_inj.1 (by show c.toNat = 35; omega))
        rw [beq_eq_false_iff_ne.2 h1, beq_eq_false_iff_ne.2 h35]
/-! ### lines -/
structure LnE where
  s : List UInt8
  p : Option Addr
  n : Nat
  c : Nat
def lineCells (es : List LnE) : List Value := es.flatMap fun x => [.string (bytesL x.s), .slice x.p x.n x.c]
theorem lineCells_len (es : List LnE) : (lineCells es).length = es.length * 2 := by
  induction es with
  | nil => rfl
  | cons x ws ih => simp only [lineCells, List.flatMap_cons, List.length_append, List.length_cons, List.length_nil] at ih ⊢; omega
theorem lineCells_get {es : List LnE} : ∀ {j : Nat} {x : LnE}, es[j]? = some x → (lineCells es)[j * 2]? = some (.string (bytesL x.s)) ∧ (lineCells es)[j * 2 + 1]? = some (.slice x.p x.n x.c) := by
  induction es with
  | nil => intro j x h; simp at h
  | cons y ws ih =>
    intro j x h
    have e : lineCells (y :: ws) = .string (bytesL y.s) :: .slice y.p y.n y.c :: lineCells ws := rfl
    cases j with
    | zero => simp at h; subst h; exact ⟨rfl, rfl⟩
    | succ j =>
      rw [List.getElem?_cons_succ] at h
      obtain ⟨h1, h2⟩ := ih h
      rw [e, show (j + 1) * 2 = j * 2 + 1 + 1 by omega]
      exact ⟨h1, h2⟩
def AtL (w : World) (p : Option Addr) (n : Nat) (es : List LnE) : Prop := es.length = n ∧ (0 < n → ∃ g o, p = some ⟨g, o, none⟩ ∧ ∀ (j : Nat) (x : LnE), es[j]? = some x → w.cell? ⟨g, o + j * 2, none⟩ = some (.string (bytesL x.s)) ∧ w.cell? ⟨g, o + j * 2 + 1, none⟩ = some (.slice x.p x.n x.c)) ∧ ∀ x ∈ es, AtW w x.p x.n (wordsR x.s.length x.s)
def splitJ (pre : List UInt8) (r : List UInt8) : List (List UInt8) := match splitM r with
  | [] => [pre]
  | x :: t => (pre ++ x) :: t
theorem splitJ_nil (r : List UInt8) : splitJ [] r = splitM r := by
  unfold splitJ
  cases h : splitM r with
  | nil => exact absurd h (split_ne r)
  | cons x t => rfl
theorem splitJ_10 (pre r : List UInt8) : splitJ pre (10 :: r) = pre :: splitM r := by
  unfold splitJ
  rw [splitM, if_pos rfl]
  simp
theorem splitJ_c (pre r : List UInt8) (c : UInt8) (h : c ≠ 10) : splitJ pre (c :: r) = splitJ (pre ++ [c]) r := by
  unfold splitJ
  rw [splitM, if_neg h]
  cases hs : splitM r with
  | nil => exact absurd hs (split_ne r)
  | cons x t => simp
theorem splitJ_end (pre : List UInt8) : splitJ pre [] = [pre] := by unfold splitJ; simp [splitM]
theorem rlines_any (s : ByteArray) (hs : s.size ≤ 10000) (w : World) : Calls Tryz.prog 23 #[.string s] w fun e w' => Ch No w w' ∧ ∃ p n c es, e = .returned (.slice p n c) ∧ AtL w' p n es ∧ es.map (·.s) = splitM s.data.toList ∧ n ≤ 10001 ∧ n ≤ c ∧ ∀ x ∈ es, x.s.length ≤ s.size := by
  refine calls_of_fnT mixed Tryz.func23 (s := s23) ?_
  rw [t23]
  generalize hl : s.data.toList = l
  have hz : s.size = l.length := by rw [← hl]; rfl
  refine loop_i mixed m23_1 s23_1 (by kernel_rfl) (by kernel_rfl)
    (fun (v : (Option Addr × Nat × Nat) × Int × Int × Unit) w' => ∃ (i f : Nat) (es : List LnE), v.2.2.1 = i ∧ v.2.1 = f ∧ f ≤ i ∧ i ≤ l.length + 1 ∧ Ch No w w' ∧ Row w' w.heap.size tLine 2 v.1.1 v.1.2.1 v.1.2.2 (lineCells es) ∧ es.length ≤ i ∧ (∀ x ∈ es, Row w' w.heap.size tWord 2 x.p x.n x.c (wordCells (wordsR x.s.length x.s)) ∧ x.s.length ≤ l.length) ∧
      ((i ≤ l.length ∧ splitM l = es.map (·.s) ++ splitJ ((l.drop f).take (i - f)) (l.drop i)) ∨ (i = l.length + 1 ∧ splitM l = es.map (·.s)))) (fun (v : (Option Addr × Nat × Nat) × Int × Int × Unit) _ => l.length + 1 - v.2.2.1.toNat) ((none, 0, 0), 0, 0, ()) rfl ⟨0, 0, [], rfl, rfl, by omega, by omega, Ch.refl _ _, Row.nil _ _ _ _, by simp, fun x hx => (by cases hx), .inl ⟨by omega, by rw [List.map_nil, List.nil_append, List.drop_zero, Nat.sub_self, List.take_zero, splitJ_nil]⟩⟩ ?_
  rintro ⟨⟨p, n, c⟩, y, x, ⟨⟩⟩ g w1 ⟨i, f, es, (rfl : x = i), (rfl : y = f), hfi, hi, h1, hrow, hel, hes, hst⟩
  rw [t23_1]
  dsimp only at hrow
  have hnl := hrow.len
  rw [lineCells_len] at hnl
  refine br_both (fun e => ?_) fun e => ?_
  · have hil : i ≤ l.length := by have := le_t e; omega
    obtain ⟨_, hsp⟩ : i ≤ l.length ∧ splitM l = es.map (·.s) ++ splitJ ((l.drop f).take (i - f)) (l.drop i) := by
      rcases hst with h | h
      · exact h
      · omega
    have wi : IntKind.i64.wrap ((i : Int) + 1) = ((i + 1 : Nat) : Int) := by rw [wrap_succ (by omega) (by omega)]; omega
    refine cut_i mixed s23_2 (fun (v : Bool × Unit) w' => w' = w1 ∧ v.1 = (decide (i = l.length) || decide (l[i]? = some 10))) (by kernel_rfl) (fun g => ?_) ?_
    · rw [t23_2]
      refine br_both (fun e => ⟨rfl, (_, ()), rfl, rfl, ?_⟩) fun e => ?_
      · have : (i : Int) = (s.size : Int) := eq_t e
        rw [decide_eq_true (show i = l.length by omega)]; rfl
      · have hne : (i : Int) ≠ (s.size : Int) := eq_f e
        have hlt : i < l.length := by omega
        obtain ⟨c0, hc0⟩ : ∃ u, l[i]? = some u := ⟨_, List.getElem?_eq_getElem hlt⟩
        obtain ⟨hb1, hb2⟩ := byte_at s (by rw [hl]; exact hc0)
        refine bi_i (by omega) (by rw [Int.toNat_natCast]; exact hb1) ⟨rfl, (_, ()), rfl, rfl, ?_⟩
        simp only [Int.toNat_natCast]
        rw [hb2, decide_eq_false (show ¬ i = l.length by omega), Bool.false_or, hc0]
        by_cases h10 : c0 = 10
        · subst h10; rfl
        · have h1 : ¬ ((c0.toNat : Int) = 10) := fun e => h10 (UInt8.toNat_inj.1 (by show c0.toNat = 10; omega))
          rw [beq_eq_false_iff_ne.2 h1, decide_eq_false (by simpa using h10)]
    rintro ⟨u, ⟨⟩⟩ g w2 ⟨rfl, hu⟩
    dsimp only at hu
    refine br_both (fun e => ?_) fun e => ?_
    · have e : u = true := e
      rw [e] at hu
      have hex : s.extract f i = bytesL ((l.drop f).take (i - f)) := ba_eq (by rw [ext_list, hl])
      have hpl : ((l.drop f).take (i - f)).length = i - f := by rw [List.length_take, List.length_drop]; omega
      refine nd3 (by omega) (by omega) (by show (i : Int) ≤ (s.size : Int); omega) ?_
      rw [Int.toNat_natCast, Int.toNat_natCast, hex]
      generalize hpre : (l.drop f).take (i - f) = pre at *
      refine cl_i (rcut_any (bytesL pre) (by rw [tb_size]; omega) w2) ?_
      rintro e' w3 ⟨h3, q, m, d, rfl, hw, hm⟩
      rw [tb_size, tb_data] at hw
      refine ⟨(q, m, d), rfl, nw fun w4 h4 z4 b4 => ?_⟩
      have h34 := h3.trans h4
      have hrow4 := hrow.no h34
      refine ap_blk (by kernel_rfl) infoLine rfl (by omega) hrow4 (by have := h1.size; have := h34.size; omega) b4 (by simp) (fun u hu => by simp at hu; rcases hu with rfl | rfl <;> rfl) (by unfold maxLen; omega) (by omega) fun q' d' w5 g5 => ?_
      have hch : Ch No w w5 := (h1.trans h34).then_ g5.ch (fun k hk h => by have := (hrow4.lt h).1; omega)
      have hsz3 := h1.size
      refine ⟨((q', n + 1, d'), ((i + 1 : Nat) : Int), ((i + 1 : Nat) : Int), ()), ?_, ⟨i + 1, i + 1, es ++ [⟨pre, q, m, d⟩], rfl, rfl, Nat.le_refl _, by omega, hch, ?_, by rw [List.length_append, List.length_singleton]; omega, ?_, ?_⟩, by dsimp only; omega⟩
      · rw [wi]; rfl
      · have e1 : lineCells (es ++ [⟨pre, q, m, d⟩]) = lineCells es ++ [.string (bytesL pre), .slice q m d] := by unfold lineCells; rw [List.flatMap_append]; rfl
        rw [e1]; exact g5.own
      · intro x hx
        rcases List.mem_append.1 hx with hx | hx
        · obtain ⟨h6, h7⟩ := hes x hx
          have h8 := h6.no h34
          exact ⟨h8.ch g5.ch (h8.noTy (noTy_row hrow4 (by decide))), h7⟩
        · rw [List.mem_singleton] at hx
          subst hx
          have h8 := (hw.base (base' := w.heap.size) (by omega)).no h4
          exact ⟨h8.ch g5.ch (h8.noTy (noTy_row hrow4 (by decide))), by dsimp only; omega⟩
      · rcases Bool.or_eq_true_iff.1 hu.symm with h | h
        · have h := of_decide_eq_true h
          right
          refine ⟨by omega, ?_⟩
          rw [hsp, List.drop_of_length_le (by omega), splitJ_end, List.map_append]
          rfl
        · have h := of_decide_eq_true h
          have hlt := (List.getElem?_eq_some_iff.1 h).1
          left
          refine ⟨by omega, ?_⟩
          rw [hsp, drop_cons h, splitJ_10, Nat.sub_self, List.take_zero, splitJ_nil, List.map_append, List.append_assoc]
          rfl
    · have e : u = false := e
      rw [e] at hu
      have hu := hu.symm
      rw [Bool.or_eq_false_iff] at hu
      have hlt : i < l.length := by have := of_decide_eq_false hu.1; omega
      obtain ⟨c0, hc0⟩ : ∃ u, l[i]? = some u := ⟨_, List.getElem?_eq_getElem hlt⟩
      have h10 : c0 ≠ 10 := fun h => of_decide_eq_false hu.2 (by rw [hc0, h])
      refine ⟨((p, n, c), (f : Int), ((i + 1 : Nat) : Int), ()), ?_, ⟨i + 1, f, es, rfl, rfl, by omega, by omega, h1, hrow, by omega, hes, .inl ⟨by omega, ?_⟩⟩, by dsimp only; omega⟩
      · rw [wi]; rfl
      · rw [hsp, drop_cons hc0, splitJ_c _ _ _ h10, show i + 1 - f = (i - f) + 1 by omega, take_snoc (c := c0) (by rw [show f + (i - f) = i by omega]; exact hc0)]
  · have hil : l.length < i := by have := le_f e; omega
    obtain ⟨_, hsp⟩ : i = l.length + 1 ∧ splitM l = es.map (·.s) := by
      rcases hst with h | h
      · omega
      · exact h
    refine ⟨rfl, ((p, n, c), ()), rfl, fun g => ⟨h1, p, n, c, es, rfl, ⟨by omega, fun hn => ?_, fun x hx => AtW.row (hes x hx).1⟩, hsp.symm, by omega, hrow.cap.1, fun x hx => by have := (hes x hx).2; omega⟩⟩
    obtain ⟨gb, e, _, hc⟩ := hrow.get hn
    refine ⟨gb, 0, e, fun j x hx => ?_⟩
    obtain ⟨h1, h2⟩ := lineCells_get hx
    simp only [Nat.zero_add]
    exact ⟨hc _ _ h1, hc _ _ h2⟩
end Go.Proofs.YtjlmkahagcojcaaGreatDoor
