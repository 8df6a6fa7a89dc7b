/- The document's reader: number. -/
import Derived.Test.YtjlmkahagcojcaaGreatDoorXf
namespace Go.Proofs.YtjlmkahagcojcaaGreatDoor.V
open Go Tr
open Go.Lib (decodeL)
set_option maxRecDepth 100000
/-! the tree of function 165 -/
abbrev fx165_2 (qa0 : Addr) : List (Tmp × Value) := [(0, .pointer (some qa0))]
abbrev L165_2 (x1 : Int) : List (Tmp × Value) := [(2, .int .i64 x1), (3, .string (bytesL [57, 50, 50, 51, 51, 55, 50, 48, 51, 54, 56, 53, 52, 55, 55, 53, 56, 48, 55]))]
abbrev mx165_2 : List (Tmp × Comp) := [(2, .leaf (.int .i64)), (3, .leaf .str)]
abbrev mr165_2 : List (Tmp × Comp) := []
def s165_2 : Script := .ld .str (.ix (.sym (.ld .str (.sym (.lit (.lit (.lit (.lit (.lit (.lit (.lit (.lit (.lit (.lit (.lit (.lit (.lit (.lit (.lit (.lit (.cl (.tup []) .nil))))))))))))))))) (.lit (.lit (.lit (.ld .str (.lit (.lit (.ix (.lit (.lit (.sym (.lit (.lit (.lit (.lit (.lit (.lit (.lit (.lit (.cl (.tup []) .nil))))))))) (.lit (.lit (.lit (.ld .str (.lit (.lit (.ix (.lit (.lit (.sym (.cl (.tup []) .nil) .nil)))))))))))))))))))))) .nil))
theorem t165_2 (qa0 : Addr) (x1 : Int) (gg2 : Nat → Value) : pieceT Tryz.prog (at_ Tryz.f165 [1, 1, 0]) 142 (fx165_2 qa0 ++ L165_2 x1) gg2 (mx165_2.map (·.1)) [] (mr165_2.map (·.1)) s165_2 = .load qa0 .str (fun s3 => .bidx s3 x1 (fun c4 => .br (c4 == 45) (.load qa0 .str (fun s5 => .br (Decidable.decide (IntKind.i64.wrap (x1 + 1) ≥ (↑s5.size : Int))) (.call 161 #[.pointer (some qa0), .int .i64 28, .int .i64 (IntKind.i64.wrap (x1 + 1))] (.tup []) (fun r6 => .fin .ret [])) (.load qa0 .str (fun s7 => .bidx s7 (IntKind.i64.wrap (x1 + 1)) (fun c8 => .br (Decidable.decide (c8 < 49)) (.call 161 #[.pointer (some qa0), .int .i64 28, .int .i64 (IntKind.i64.wrap (x1 + 1))] (.tup []) (fun r9 => .fin .ret [])) (.load qa0 .str (fun s10 => .bidx s10 (IntKind.i64.wrap (x1 + 1)) (fun c11 => .br (Decidable.decide (c11 > 57)) (.call 161 #[.pointer (some qa0), .int .i64 28, .int .i64 (IntKind.i64.wrap (x1 + 1))] (.tup []) (fun r12 => .fin .ret [])) (.fin .normal [(2, .int .i64 (IntKind.i64.wrap (x1 + 1))), (3, .string (bytesL [57, 50, 50, 51, 51, 55, 50, 48, 51, 54, 56, 53, 52, 55, 55, 53, 56, 48, 56]))]))))))))) (.fin .normal [(2, .int .i64 x1), (3, .string (bytesL [57, 50, 50, 51, 51, 55, 50, 48, 51, 54, 56, 53, 52, 55, 55, 53, 56, 48, 55]))]))) := by kernel_rfl
abbrev fx165_14 (qa0 : Addr) (u13 : Int × ByteArray × Unit) : List (Tmp × Value) := [(0, .pointer (some qa0)), (2, .int .i64 u13.1), (3, .string u13.2.1)]
abbrev L165_14 : List (Tmp × Value) := []
abbrev mx165_14 : List (Tmp × Comp) := []
abbrev mr165_14 : List (Tmp × Comp) := []
def s165_14 : Script := .ld .str (.ix (.sym (.cl (.tup []) .nil) .nil))
theorem t165_14 (qa0 : Addr) (u13 : Int × ByteArray × Unit) (gg14 : Nat → Value) : pieceT Tryz.prog (at_ Tryz.f165 [1, 1, 1, 0]) 142 (fx165_14 qa0 u13 ++ L165_14) gg14 (mx165_14.map (·.1)) [] (mr165_14.map (·.1)) s165_14 = .load qa0 .str (fun s15 => .bidx s15 u13.1 (fun c16 => .br (c16 == 48) (.call 162 #[.pointer (some qa0), .agg #[.int .i64 1, .int .i64 0, .string (bytesL []), .int .i64 0], .int .i64 (IntKind.i64.wrap (u13.fst + 1))] (.tup []) (fun r17 => .fin .ret [])) (.fin .normal []))) := by kernel_rfl
abbrev fx165_19 (qa0 : Addr) (u13 : Int × ByteArray × Unit) : List (Tmp × Value) := [(0, .pointer (some qa0)), (2, .int .i64 u13.1), (3, .string u13.2.1)]
abbrev m165_19 : List (Tmp × Comp) := [(4, .leaf (.int .i64))]
abbrev mx165_19 : List (Tmp × Comp) := [(4, .leaf (.int .i64))]
abbrev mr165_19 : List (Tmp × Comp) := []
def s165_19 : Script := .ld .str (.sym (.lit (.lit (.lit (.ld .str (.lit (.lit (.ix (.lit (.lit (.sym (.lit (.lit (.lit (.ld .str (.lit (.lit (.ix (.lit (.lit (.sym .nil .nil)))))))))) (.lit (.lit (.lit (.lit (.lit (.lit (.lit (.lit .nil)))))))))))))))))) (.lit (.lit (.lit (.lit (.lit (.lit (.lit (.lit (.lit (.lit (.lit (.lit (.lit (.lit (.lit (.lit .nil)))))))))))))))))
theorem t165_19 (qa0 : Addr) (u13 : Int × ByteArray × Unit) (x_4 : Int) (gg19 : Nat → Value) : pieceT Tryz.prog (at_ Tryz.f165 [1, 1, 1, 1, 1, 0, 0, 0]) 142 (fx165_19 qa0 u13 ++ mvals m165_19 (x_4, ())) gg19 (m165_19.map (·.1)) (mx165_19.map (·.1)) (mr165_19.map (·.1)) s165_19 = .load qa0 .str (fun s20 => .br (Decidable.decide (x_4 < (↑s20.size : Int))) (.load qa0 .str (fun s21 => .bidx s21 x_4 (fun c22 => .br (Decidable.decide (c22 ≥ 48)) (.load qa0 .str (fun s23 => .bidx s23 x_4 (fun c24 => .br (Decidable.decide (c24 ≤ 57)) (.fin .normal [(4, .int .i64 (IntKind.i64.wrap (x_4 + 1)))]) (.fin (.exit 0) [(4, .int .i64 x_4)])))) (.fin (.exit 0) [(4, .int .i64 x_4)])))) (.fin (.exit 0) [(4, .int .i64 x_4)])) := by kernel_rfl
abbrev fx165_27 (qa0 : Addr) (u13 : Int × ByteArray × Unit) (u25 : Int × Unit) (s26 : ByteArray) : List (Tmp × Value) := [(0, .pointer (some qa0)), (3, .string u13.2.1), (4, .int .i64 u25.1), (5, .string (s26.extract u13.fst.toNat u25.fst.toNat))]
abbrev L165_27 : List (Tmp × Value) := []
abbrev mx165_27 : List (Tmp × Comp) := []
abbrev mr165_27 : List (Tmp × Comp) := []
def s165_27 : Script := .sym (.lit (.lit (.lit (.lit (.lit (.lit (.lit (.lit (.ld (.int .i64) (.cl (.tup []) .nil)))))))))) (.lit (.lit (.lit (.lit (.lit (.sym (.lit (.lit (.lit (.lit (.lit (.sym (.ld (.int .i64) (.cl (.tup []) .nil)) .nil)))))) (.lit (.lit (.lit (.lit (.lit (.lit .nil))))))))))))
theorem t165_27 (qa0 : Addr) (u13 : Int × ByteArray × Unit) (u25 : Int × Unit) (s26 : ByteArray) (gg27 : Nat → Value) : pieceT Tryz.prog (at_ Tryz.f165 [1, 1, 1, 1, 1, 1, 1, 0]) 142 (fx165_27 qa0 u13 u25 s26 ++ L165_27) gg27 (mx165_27.map (·.1)) [] (mr165_27.map (·.1)) s165_27 = .br (Decidable.decide ((↑(s26.extract u13.fst.toNat u25.fst.toNat).size : Int) > (↑u13.snd.fst.size : Int))) (.load (qa0.add 1) (.int .i64) (fun x28 => .call 161 #[.pointer (some qa0), .int .i64 29, .int .i64 x28] (.tup []) (fun r29 => .fin .ret []))) (.br ((↑(s26.extract u13.fst.toNat u25.fst.toNat).size : Int) == (↑u13.snd.fst.size : Int)) (.br (!(Go.Op.bytesLess (s26.extract u13.fst.toNat u25.fst.toNat).toList u13.snd.fst.toList || (s26.extract u13.fst.toNat u25.fst.toNat).toList == u13.snd.fst.toList)) (.load (qa0.add 1) (.int .i64) (fun x30 => .call 161 #[.pointer (some qa0), .int .i64 29, .int .i64 x30] (.tup []) (fun r31 => .fin .ret []))) (.fin .normal [])) (.fin .normal [])) := by kernel_rfl
abbrev fx165_33 (qa0 : Addr) (u13 : Int × ByteArray × Unit) (u25 : Int × Unit) (s26 : ByteArray) : List (Tmp × Value) := [(0, .pointer (some qa0)), (3, .string u13.2.1), (4, .int .i64 u25.1), (5, .string (s26.extract u13.fst.toNat u25.fst.toNat))]
abbrev m165_33 : List (Tmp × Comp) := [(6, .leaf (.int .i64)), (7, .leaf (.int .i64))]
abbrev mx165_33 : List (Tmp × Comp) := [(6, .leaf (.int .i64))]
abbrev mr165_33 : List (Tmp × Comp) := []
def s165_33 : Script := .sym (.ix .nil) .nil
theorem t165_33 (qa0 : Addr) (u13 : Int × ByteArray × Unit) (u25 : Int × Unit) (s26 : ByteArray) (x_6 : Int) (x_7 : Int) (gg33 : Nat → Value) : pieceT Tryz.prog (at_ Tryz.f165 [1, 1, 1, 1, 1, 1, 1, 1, 1, 0, 1, 0, 0]) 142 (fx165_33 qa0 u13 u25 s26 ++ mvals m165_33 (x_6, x_7, ())) gg33 (m165_33.map (·.1)) (mx165_33.map (·.1)) (mr165_33.map (·.1)) s165_33 = .br (Decidable.decide (x_7 < (↑(s26.extract u13.fst.toNat u25.fst.toNat).size : Int))) (.bidx (s26.extract u13.fst.toNat u25.fst.toNat) x_7 (fun c34 => .fin .normal [(6, .int .i64 (IntKind.i64.wrap (IntKind.i64.wrap (x_6 * 10) - IntKind.i64.wrap (IntKind.u8.wrap (c34 - 48))))), (7, .int .i64 (IntKind.i64.wrap (x_7 + 1)))])) (.fin (.exit 2) [(6, .int .i64 x_6)]) := by kernel_rfl
def s165 : Script := .ld (.int .i64) (.cr 1 [0] [2, 3] mx165_2 mr165_2 (.cr 0 [0, 2, 3] [] mx165_14 mr165_14 (.lp 0 [0, 2, 3] [4] mx165_19 mr165_19 (.ld .str (.nd (.cr 0 [0, 3, 4, 5] [] mx165_27 mr165_27 (.lp 2 [0, 3, 4, 5] [6, 7] mx165_33 mr165_33 (.sym (.cl (.tup []) .nil) (.cl (.tup []) .nil)) .nil) .nil))) .nil) .nil) .nil)
theorem t165 (qa0 : Addr) : fnT Tryz.prog Tryz.f165 #[.pointer (some qa0)] s165 = .load (qa0.add 1) (.int .i64) (fun x1 => .cutr (at_ Tryz.f165 [1, 1, 0]) 142 (fx165_2 qa0) (L165_2 x1) mx165_2 mr165_2 (fun u13 g13 => .cutr (at_ Tryz.f165 [1, 1, 1, 0]) 142 (fx165_14 qa0 u13) L165_14 mx165_14 mr165_14 (fun u18 g18 => .loop (at_ Tryz.f165 [1, 1, 1, 1, 1, 0, 0, 0]) 142 (fx165_19 qa0 u13) [(4, .int .i64 u13.1)] mx165_19 mr165_19 0 (fun u25 g25 => .load qa0 .str (fun s26 => .need (Decidable.decide (0 ≤ u13.fst ∧ u13.fst ≤ u25.fst ∧ u25.fst ≤ (↑s26.size : Int))) (.cutr (at_ Tryz.f165 [1, 1, 1, 1, 1, 1, 1, 0]) 142 (fx165_27 qa0 u13 u25 s26) L165_27 mx165_27 mr165_27 (fun u32 g32 => .loop (at_ Tryz.f165 [1, 1, 1, 1, 1, 1, 1, 1, 1, 0, 1, 0, 0]) 142 (fx165_33 qa0 u13 u25 s26) [(6, .int .i64 0), (7, .int .i64 0)] mx165_33 mr165_33 2 (fun u35 g35 => .br (u13.snd.fst.toList == (bytesL [57, 50, 50, 51, 51, 55, 50, 48, 51, 54, 56, 53, 52, 55, 55, 53, 56, 48, 55]).toList) (.call 162 #[.pointer (some qa0), .agg #[.int .i64 1, .int .i64 (IntKind.i64.wrap (0 - u35.fst)), .string (bytesL []), .int .i64 0], .int .i64 u25.1] (.tup []) (fun r36 => .done (.returned (.tuple #[])))) (.call 162 #[.pointer (some qa0), .agg #[.int .i64 1, .int .i64 u35.1, .string (bytesL []), .int .i64 0], .int .i64 u25.1] (.tup []) (fun r37 => .done (.returned (.tuple #[]))))) (fun u38 g38 => .stuck)) (fun u39 g39 => .done (.returned (.tuple #[])))))) (fun u40 g40 => .stuck)) (fun u41 g41 => .done (.returned (.tuple #[])))) (fun u42 g42 => .done (.returned (.tuple #[])))) := by kernel_rfl
theorem dvalA_split : ∀ (l : List UInt8) (acc : Nat), dvalA acc l = acc * 10 ^ l.length + dvalA 0 l
  | [], acc => by simp [dvalA]
  | c :: l, acc => by
    have e : ∀ a, dvalA a (c :: l) = dvalA (a * 10 + (c.toNat - 48)) l := fun _ => rfl
    rw [e, e, dvalA_split l (acc * 10 + _), dvalA_split l (0 * 10 + _), List.length_cons, Nat.pow_succ, Nat.zero_mul, Nat.zero_add, Nat.add_mul, Nat.mul_assoc, Nat.mul_comm 10, Nat.add_assoc]
theorem dvalA_lt : ∀ (l : List UInt8), (∀ c ∈ l, isDig c = true) → dvalA 0 l < 10 ^ l.length
  | [], _ => by simp [dvalA]
  | c :: l, h => by
    have hc := (dig_is c).1 (h c (.head _))
    have ih := dvalA_lt l fun c hc => h c (.tail _ hc)
    have e : dvalA 0 (c :: l) = dvalA (0 * 10 + (c.toNat - 48)) l := rfl
    rw [e, dvalA_split, List.length_cons, Nat.pow_succ]
    have : (0 * 10 + (c.toNat - 48)) * 10 ^ l.length ≤ 9 * 10 ^ l.length := Nat.mul_le_mul_right _ (by omega)
    omega
theorem less_dval : ∀ (a b : List UInt8), a.length = b.length → (∀ c ∈ a, isDig c = true) → (∀ c ∈ b, isDig c = true) → (Op.bytesLess a b || a == b) = decide (dvalA 0 a ≤ dvalA 0 b)
  | [], [], _, _, _ => rfl
  | [], _ :: _, h, _, _ => by simp at h
  | _ :: _, [], h, _, _ => by simp at h
  | x :: a, y :: b, h, ha, hb => by
    have hx := (dig_is x).1 (ha x (.head _))
    have hy := (dig_is y).1 (hb y (.head _))
    have hl : a.length = b.length := by simpa using h
    have ih := less_dval a b hl (fun c hc => ha c (.tail _ hc)) fun c hc => hb c (.tail _ hc)
    have la := dvalA_lt a fun c hc => ha c (.tail _ hc)
    have lb := dvalA_lt b fun c hc => hb c (.tail _ hc)
    have ea : dvalA 0 (x :: a) = (x.toNat - 48) * 10 ^ b.length + dvalA 0 a := by
      have : dvalA 0 (x :: a) = dvalA (0 * 10 + (x.toNat - 48)) a := rfl
      rw [this, dvalA_split, Nat.zero_mul, Nat.zero_add, hl]
    have eb : dvalA 0 (y :: b) = (y.toNat - 48) * 10 ^ b.length + dvalA 0 b := by
      have : dvalA 0 (y :: b) = dvalA (0 * 10 + (y.toNat - 48)) b := rfl
      rw [this, dvalA_split, Nat.zero_mul, Nat.zero_add]
    rw [hl] at la
    rw [ea, eb]
    generalize 10 ^ b.length = M at *
    show ((decide (x < y) || (x == y && Op.bytesLess a b)) || (x :: a) == (y :: b)) = _
    rcases Nat.lt_trichotomy x.toNat y.toNat with h' | h' | h'
    · have : x < y := UInt8.lt_iff_toNat_lt.2 h'
      have hm : (x.toNat - 48 + 1) * M ≤ (y.toNat - 48) * M := Nat.mul_le_mul_right _ (by omega)
      rw [Nat.add_mul] at hm
      rw [decide_eq_true this, decide_eq_true (show (x.toNat - 48) * M + dvalA 0 a ≤ (y.toNat - 48) * M + dvalA 0 b by omega)]
      rfl
    · have hxy : x = y := UInt8.toNat_inj.1 h'
      subst hxy
      have hn : ¬ x < x := fun h => Nat.lt_irrefl _ (UInt8.lt_iff_toNat_lt.1 h)
      have e1 : ((x :: a) == (x :: b)) = (a == b) := by simp
      have e2 : decide ((x.toNat - 48) * M + dvalA 0 a ≤ (x.toNat - 48) * M + dvalA 0 b) = decide (dvalA 0 a ≤ dvalA 0 b) := decide_eq_decide.2 (by omega)
      rw [decide_eq_false hn, e1, e2, ← ih]
      simp
    · have hn : ¬ x < y := fun h => by have := UInt8.lt_iff_toNat_lt.1 h; omega
      have hne : x ≠ y := fun h => by rw [h] at h'; exact Nat.lt_irrefl _ h'
      have hm : (y.toNat - 48 + 1) * M ≤ (x.toNat - 48) * M := Nat.mul_le_mul_right _ (by omega)
      rw [Nat.add_mul] at hm
      rw [decide_eq_false hn, decide_eq_false (show ¬ (x.toNat - 48) * M + dvalA 0 a ≤ (y.toNat - 48) * M + dvalA 0 b by omega), beq_eq_false_iff_ne.2 hne, beq_eq_false_iff_ne.2 (fun h => hne (List.cons.inj h).1)]
      rfl
def bigB (neg : Bool) : List UInt8 := [57, 50, 50, 51, 51, 55, 50, 48, 51, 54, 56, 53, 52, 55, 55, 53, 56, 48, if neg = true then 56 else 55]
theorem big_len (neg : Bool) : (bigB neg).length = 19 := by cases neg <;> rfl
theorem big_dig (neg : Bool) : ∀ c ∈ bigB neg, isDig c = true := by cases neg <;> decide
theorem big_val (neg : Bool) : dvalA 0 (bigB neg) = if neg = true then 9223372036854775808 else 9223372036854775807 := by cases neg <;> rfl
theorem numM_max (neg : Bool) (ds : List UInt8) : numM neg ds = if dvalA 0 ds ≤ dvalA 0 (bigB neg) then some (if neg = true then -(dvalA 0 ds : Int) else (dvalA 0 ds : Int)) else none := by
  have e : dval ds = dvalA 0 ds := rfl
  rw [big_val]
  unfold numM
  rw [e]
  cases neg with
  | true => rfl
  | false =>
    have hR : (if dvalA 0 ds ≤ (if false = true then 9223372036854775808 else 9223372036854775807) then some (if false = true then -(dvalA 0 ds : Int) else (dvalA 0 ds : Int)) else none) = if dvalA 0 ds ≤ 9223372036854775807 then some (dvalA 0 ds : Int) else none := rfl
    rw [hR]
    show (if dvalA 0 ds < 9223372036854775808 then some (dvalA 0 ds : Int) else none) = _
    by_cases h : dvalA 0 ds < 9223372036854775808
    · rw [if_pos h, if_pos (by omega)]
    · rw [if_neg h, if_neg (by omega)]
/-- Too long, or as long and behind. -/
theorem over_is (neg : Bool) (ds : List UInt8) (hd : ∀ c ∈ ds, isDig c = true) (h0 : 49 ≤ pk ds) : (ds.length > 19 → ¬ dvalA 0 ds ≤ dvalA 0 (bigB neg)) ∧ (ds.length < 19 → dvalA 0 ds ≤ dvalA 0 (bigB neg)) ∧ (ds.length = 19 → (Op.bytesLess ds (bigB neg) || ds == bigB neg) = decide (dvalA 0 ds ≤ dvalA 0 (bigB neg))) := by
  have hB : dvalA 0 (bigB neg) ≤ 9223372036854775808 ∧ 9223372036854775807 ≤ dvalA 0 (bigB neg) := by
    rw [big_val]; split <;> decide
  refine ⟨fun h => ?_, fun h => ?_, fun h => less_dval _ _ (by rw [h, big_len]) hd (big_dig neg)⟩
  · cases ds with
    | nil => simp at h
    | cons c l =>
      have h0 : 49 ≤ c.toNat := h0
      have e : dvalA 0 (c :: l) = dvalA (0 * 10 + (c.toNat - 48)) l := rfl
      rw [e, dvalA_split]
      have hp : 10 ^ 19 ≤ 10 ^ l.length := Nat.pow_le_pow_right (by decide) (by simp at h; omega)
      have hm : 1 * 10 ^ l.length ≤ (0 * 10 + (c.toNat - 48)) * 10 ^ l.length := Nat.mul_le_mul_right _ (by omega)
      have : (10 : Nat) ^ 19 = 10000000000000000000 := by decide
      omega
  · have := dvalA_lt ds hd
    have hp : 10 ^ ds.length ≤ 10 ^ 18 := Nat.pow_le_pow_right (by decide) (by omega)
    have : (10 : Nat) ^ 18 = 1000000000000000000 := by decide
    omega
theorem rdig_neg {f : Nat} {r : List UInt8} (h : ¬ (49 ≤ pk r ∧ pk r ≤ 57)) : rdigX f true r = .error (28, r.length) := by
  unfold rdigX
  by_cases h8 : pk r = 48
  · rw [if_pos h8, if_pos rfl]
  rw [if_neg h8]
  rcases dig_pk r with ⟨h1, _, _⟩ | ⟨c, t, rfl, h2, _⟩
  · rw [if_pos h1]
  · omega
theorem tw_take (l : List UInt8) : l.takeWhile isDig = l.take (l.takeWhile isDig).length := (List.prefix_iff_eq_take.1 (List.takeWhile_prefix isDig))
section
variable {B : Nat} {w : World} {nd : Nat} {s : ByteArray} {i : Nat} {P : List PartM} {O : List Nat} {q : Option Addr} {t d : Nat} {q2 : Option Addr} {t2 d2 : Nat}
def NumR (B : Nat) (w0 : World) (nd : Nat) (s : ByteArray) (P : List PartM) (O : List Nat) (q2 : Option Addr) (t2 d2 : Nat) (w' : World) : Except Flt (Int × List UInt8) → Prop
  | .error f => Ch (B ≤ ·) w0 w' ∧ MBad w' nd s f
  | .ok (v, r) => Ch (B ≤ ·) w0 w' ∧ ∃ j q' t' d', MSx B w' nd s j (P ++ [⟨1, v, bytesL [], 0⟩]) O q' t' d' q2 t2 d2 ∧ rest s j = r
set_option maxHeartbeats 1000000 in
theorem num_tail {w : World} (D : MSx B w nd s i P O q t d q2 t2 d2) (hp : P.length < 12) (neg : Bool) (i0 j : Nat) (hi0 : i0 ≤ j) (hj : j ≤ s.size) (ds r : List UInt8) (hds : (rest s i0).take (j - i0) = ds) (hdg : ∀ c ∈ ds, isDig c = true) (h49 : 49 ≤ pk ds) (hr : rest s j = r) (X : Except Flt (Int × List UInt8))
    (hX : X = match numM neg ds with
      | none => .error (29, (rest s i).length)
      | some v => .ok (v, r)) :
    wpT Tryz.prog (fun e w' => e = .returned (.tuple #[]) ∧ NumR B w nd s P O q2 t2 d2 w' X) (fun _ _ _ => False)
      (.load ⟨nd, 0, none⟩ .str (fun s26 =>
            .need (Decidable.decide (0 ≤ (i0 : Int) ∧ (i0 : Int) ≤ (j : Int) ∧ (j : Int) ≤ (↑s26.size : Int)))
              (.cutr (at_ Tryz.f165 [1, 1, 1, 1, 1, 1, 1, 0]) 142 (fx165_27 ⟨nd, 0, none⟩ ((i0 : Int), bytesL (bigB neg), ()) ((j : Int), ()) s26) L165_27 mx165_27 mr165_27 (fun u32 g32 =>
                .loop (at_ Tryz.f165 [1, 1, 1, 1, 1, 1, 1, 1, 1, 0, 1, 0, 0]) 142 (fx165_33 ⟨nd, 0, none⟩ ((i0 : Int), bytesL (bigB neg), ()) ((j : Int), ()) s26) [(6, .int .i64 0), (7, .int .i64 0)] mx165_33 mr165_33 2 (fun u35 g35 =>
                  .br ((bytesL (bigB neg)).toList == (bytesL [57, 50, 50, 51, 51, 55, 50, 48, 51, 54, 56, 53, 52, 55, 55, 53, 56, 48, 55]).toList)
                    (.call 162 #[.pointer (some ⟨nd, 0, none⟩), .agg #[.int .i64 1, .int .i64 (IntKind.i64.wrap (0 - u35.fst)), .string (bytesL []), .int .i64 0], .int .i64 (j : Int)] (.tup []) (fun r36 =>
                      .done (.returned (.tuple #[]))))
                    (.call 162 #[.pointer (some ⟨nd, 0, none⟩), .agg #[.int .i64 1, .int .i64 u35.1, .string (bytesL []), .int .i64 0], .int .i64 (j : Int)] (.tup []) (fun r37 =>
                      .done (.returned (.tuple #[]))))) (fun u38 g38 =>
                  .stuck)) (fun u39 g39 =>
                .done (.returned (.tuple #[])))))) .pl w := by
  have hbig := D.ok.big
  have hx : s.extract (i0 : Int).toNat (j : Int).toNat = bytesL ds := by
    rw [Int.toNat_natCast, Int.toNat_natCast, bytesL_eq (s.extract i0 j), extract_list, hds]
  have hne : ds ≠ [] := by rintro rfl; exact absurd h49 (by decide)
  have hdl : ds.length ≤ s.size := by rw [← hds, List.length_take, restL]; omega
  obtain ⟨o1, o2, o3⟩ := over_is neg ds hdg h49
  rw [numM_max] at hX
  refine ld_str (D.blk.cell 0) (nd3 (by omega) (by omega) (by omega) ?_)
  refine cutr_i mixed s165_27 (fun _ w' => w' = w ∧ dvalA 0 ds ≤ dvalA 0 (bigB neg)) (fun _ w' => NumR B w nd s P O q2 t2 d2 w' X) (by kernel_rfl) (by kernel_rfl) (fun g => ?_) ?_ (fun v g w' h => ⟨rfl, h⟩)
  · rw [t165_27]
    dsimp only
    rw [hx, tb_list, tb_list]
    have bad : ∀ w', ¬ dvalA 0 ds ≤ dvalA 0 (bigB neg) → Ch (B ≤ ·) w w' → MBad w' nd s (29, (rest s i).length) → NumR B w nd s P O q2 t2 d2 w' X := fun w' h h1 h2 => by
      rw [if_neg h] at hX
      rw [hX]; exact ⟨h1, h2⟩
    rw [tb_size, tb_size, big_len]
    refine br_both (fun e => ?_) fun e => br_both (fun e1 => ?_) fun e1 => ?_
    · have e := gt_t e
      exact ld_int (D.blk.cell 1) (fl_i 29 i D (by decide) D.ok.le fun w' h1 h2 => ⟨(), rfl, bad w' (o1 (by omega)) h1 h2⟩)
    · have e1 := eq_t e1
      rw [o3 (by omega)]
      refine br_both (fun e2 => ?_) fun e2 => ?_
      · have e2 : ¬ dvalA 0 ds ≤ dvalA 0 (bigB neg) := fun h => by rw [decide_eq_true h] at e2; cases e2
        exact ld_int (D.blk.cell 1) (fl_i 29 i D (by decide) D.ok.le fun w' h1 h2 => ⟨(), rfl, bad w' e2 h1 h2⟩)
      · have e2 : dvalA 0 ds ≤ dvalA 0 (bigB neg) := Decidable.byContradiction fun h => by rw [decide_eq_false h] at e2; cases e2
        exact ⟨(), rfl, rfl, e2⟩
    · have e := gt_f e
      have e1 := eq_f e1
      exact ⟨(), rfl, rfl, o2 (by omega)⟩
  rintro ⟨⟩ g w1 ⟨rfl, hle⟩
  rw [if_pos hle] at hX
  have hmax : dvalA 0 ds ≤ if neg = true then 9223372036854775808 else 9223372036854775807 := by rw [← big_val]; exact hle
  refine loop_i mixed m165_33 s165_33 (by kernel_rfl) (by kernel_rfl)
    (fun (v : Int × Int × Unit) w' => w' = w1 ∧ ∃ k : Nat, v.2.1 = k ∧ k ≤ ds.length ∧ v.1 = -(dvalA 0 (ds.take k) : Int))
    (fun (v : Int × Int × Unit) _ => ds.length - v.2.1.toNat) (0, 0, ()) rfl ⟨rfl, 0, rfl, by omega, by simp [dvalA]⟩ ?_
  intro v g w2 hv
  rw [t165_33]
  obtain ⟨a, b, ⟨⟩⟩ := v
  dsimp only at hv ⊢
  obtain ⟨hw2, k, hb, hk, ha⟩ := hv
  subst hw2 hb ha
  rw [hx, tb_size]
  refine br_both (fun e => ?_) fun e => ?_
  · have hk1 : k < ds.length := by have := lt_t e; omega
    refine bi_i (by omega) (by rw [tb_size, Int.toNat_natCast]; exact hk1) ?_
    have hgb : ((bytesL ds)[(k : Int).toNat]'(by rw [tb_size, Int.toNat_natCast]; exact hk1)).toNat = ds[k].toNat := by
      rw [bytesL_get]; rfl
    rw [hgb]
    have hc := (dig_is ds[k]).1 (hdg _ (List.getElem_mem hk1))
    have hst : dvalA 0 (ds.take (k + 1)) = dvalA 0 (ds.take k) * 10 + (ds[k].toNat - 48) := by
      rw [List.take_succ_eq_append_getElem hk1]; exact dval_snoc _ _
    have hmono : dvalA 0 (ds.take (k + 1)) ≤ dvalA 0 ds := by
      have h1 : dvalA 0 ds = dvalA (dvalA 0 (ds.take (k + 1))) (ds.drop (k + 1)) := by
        conv => lhs; rw [← List.take_append_drop (k + 1) ds]
        unfold dvalA; rw [List.foldl_append]
      rw [h1]; exact dvalA_le _ _
    have h63 : dvalA 0 ds ≤ 9223372036854775808 := by
      refine Nat.le_trans hmax ?_
      split <;> decide
    have hw1 : IntKind.i64.wrap (IntKind.i64.wrap (-(dvalA 0 (ds.take k) : Int) * 10) - IntKind.i64.wrap (IntKind.u8.wrap ((ds[k].toNat : Int) - 48))) = -(dvalA 0 (ds.take (k + 1)) : Int) := by
      rw [show ((ds[k].toNat : Int) - 48) = (ds[k].toNat : Int) - ((48 : Nat) : Int) from rfl, digit_wrap hc.1 (by omega), wrap_in (x := -(dvalA 0 (ds.take k) : Int) * 10) (by omega) (by omega), wrap_in (by omega) (by omega)]
      omega
    have hw2 : IntKind.i64.wrap ((k : Int) + 1) = ((k + 1 : Nat) : Int) := wrap_succ (by omega) (by omega)
    rw [hw1, hw2]
    refine ⟨(_, _, ()), rfl, ⟨rfl, k + 1, rfl, hk1, rfl⟩, ?_⟩
    dsimp only
    rw [Int.toNat_natCast, Int.toNat_natCast]
    exact Nat.sub_lt_sub_left hk1 (Nat.lt_succ_self k)
  · have hk1 : k = ds.length := by have := lt_f e; omega
    subst hk1
    rw [List.take_length]
    refine ⟨rfl, (_, ()), rfl, fun g => ?_⟩
    dsimp only
    rw [tb_list, tb_list]
    cases neg with
    | true =>
      refine br_both (fun e => absurd e (by decide)) fun _ => ?_
      rw [if_pos rfl] at hX
      refine ad_i ⟨1, -(dvalA 0 ds : Int), bytesL [], 0⟩ j D hj hp ⟨Int.le_refl _, by dsimp only; omega⟩ fun w' q' t' d' h1 D' => ⟨rfl, ?_⟩
      rw [hX]
      exact ⟨h1, j, q', t', d', D', hr⟩
    | false =>
      refine br_both (fun _ => ?_) fun e => absurd e (by decide)
      rw [if_neg (by decide)] at hX hmax
      rw [show IntKind.i64.wrap (0 - -(dvalA 0 ds : Int)) = (dvalA 0 ds : Int) by rw [wrap_in (by omega) (by omega)]; omega]
      refine ad_i ⟨1, (dvalA 0 ds : Int), bytesL [], 0⟩ j D hj hp ⟨Int.le_refl _, by dsimp only; omega⟩ fun w' q' t' d' h1 D' => ⟨rfl, ?_⟩
      rw [hX]
      exact ⟨h1, j, q', t', d', D', hr⟩
set_option maxHeartbeats 1000000 in
theorem mnumber_any (D : MSx B w nd s i P O q t d q2 t2 d2) (hp : P.length < 12) (hb : pk (rest s i) = 45 ∨ (48 ≤ pk (rest s i) ∧ pk (rest s i) ≤ 57)) :
    Calls Tryz.prog 165 #[.pointer (some ⟨nd, 0, none⟩)] w fun e w' => e = .returned (.tuple #[]) ∧ NumR B w nd s P O q2 t2 d2 w' (rintX (rest s i)) := by
  refine calls_of_fnT mixed Tryz.func165 (s := s165) ?_
  rw [t165]
  have hbig := D.ok.big
  have hil : i < s.size := pk_lt s i (by omega)
  have hw1 : IntKind.i64.wrap ((i : Int) + 1) = ((i + 1 : Nat) : Int) := wrap_succ (by omega) (by omega)
  refine ld_int (D.blk.cell 1) ?_
  refine cutr_i mixed s165_2 (fun v w' => w' = w ∧ ∃ (neg : Bool) (i0 : Nat), v = ((i0 : Int), bytesL (bigB neg), ()) ∧ i0 < s.size ∧ rintX (rest s i) = rdigX (rest s i).length neg (rest s i0) ∧ (48 ≤ pk (rest s i0) ∧ pk (rest s i0) ≤ 57) ∧ (neg = true → pk (rest s i0) ≠ 48)) (fun _ w' => NumR B w nd s P O q2 t2 d2 w' (rintX (rest s i))) (by kernel_rfl) (by kernel_rfl) (fun g => ?_) ?_ (fun v g w' h => ⟨rfl, h⟩)
  · rw [t165_2]
    rw [hw1]
    refine ld_str (D.blk.cell 0) (bi_i (by omega) (by rw [Int.toNat_natCast]; exact hil) ?_)
    rw [pk_at hil]
    refine br_both (fun e => ?_) fun e => ?_
    · have e : pk (rest s i) = 45 := by have := eq_t e; omega
      have hR : rintX (rest s i) = rdigX (rest s i).length true (rest s (i + 1)) := by unfold rintX; rw [if_pos e, rest_tail]
      have bad : ∀ w', ¬ (49 ≤ pk (rest s (i + 1)) ∧ pk (rest s (i + 1)) ≤ 57) → Ch (B ≤ ·) w w' → MBad w' nd s (28, (rest s (i + 1)).length) → NumR B w nd s P O q2 t2 d2 w' (rintX (rest s i)) := fun w' h h1 h2 => by
        rw [hR, rdig_neg h]
        exact ⟨h1, h2⟩
      refine ld_str (D.blk.cell 0) (br_both (fun e1 => ?_) fun e1 => ?_)
      · have e1 : ¬ i + 1 < s.size := by have := ge_t e1; omega
        refine fl_i 28 (i + 1) D (by decide) (by omega) fun w' h1 h2 => ⟨(), rfl, bad w' (fun h => e1 (pk_lt s (i + 1) (by omega))) h1 h2⟩
      have h1 : i + 1 < s.size := by have := ge_f e1; omega
      refine ld_str (D.blk.cell 0) (bi_i (by omega) (by rw [Int.toNat_natCast]; exact h1) ?_)
      rw [pk_at h1]
      refine br_both (fun e2 => ?_) fun e2 => ?_
      · have e2 := lt_t e2
        exact fl_i 28 (i + 1) D (by decide) (by omega) fun w' h1 h2 => ⟨(), rfl, bad w' (by omega) h1 h2⟩
      refine ld_str (D.blk.cell 0) (bi_i (by omega) (by rw [Int.toNat_natCast]; exact h1) ?_)
      rw [pk_at h1]
      refine br_both (fun e3 => ?_) fun e3 => ?_
      · have e3 := gt_t e3
        exact fl_i 28 (i + 1) D (by decide) (by omega) fun w' h1 h2 => ⟨(), rfl, bad w' (by omega) h1 h2⟩
      have e2 := lt_f e2
      have e3 := gt_f e3
      exact ⟨(_, _, ()), rfl, rfl, true, i + 1, rfl, h1, hR, by omega, by omega⟩
    · have e := eq_f e
      exact ⟨(_, _, ()), rfl, rfl, false, i, rfl, hil, by unfold rintX; rw [if_neg (by omega)], by omega, fun h => absurd h (by decide)⟩
  rintro v g w1 ⟨rfl, neg, i0, rfl, hi0, hR, hdg, hn0⟩
  have hw2 : IntKind.i64.wrap ((i0 : Int) + 1) = ((i0 + 1 : Nat) : Int) := wrap_succ (by omega) (by omega)
  refine cutr_i mixed s165_14 (fun _ w' => w' = w1 ∧ 49 ≤ pk (rest s i0)) (fun _ w' => NumR B w1 nd s P O q2 t2 d2 w' (rintX (rest s i))) (by kernel_rfl) (by kernel_rfl) (fun g => ?_) ?_ (fun v g w' h => ⟨rfl, h⟩)
  · rw [t165_14]
    dsimp only
    refine ld_str (D.blk.cell 0) (bi_i (by omega) (by rw [Int.toNat_natCast]; exact hi0) ?_)
    rw [pk_at hi0, hw2]
    refine br_both (fun e => ?_) fun e => ?_
    · have e : pk (rest s i0) = 48 := by have := eq_t e; omega
      have hng : neg = false := by
        cases neg with
        | true => exact absurd e (hn0 rfl)
        | false => rfl
      subst hng
      refine ad_i ⟨1, 0, bytesL [], 0⟩ (i0 + 1) D (by omega) hp (by decide) fun w' q' t' d' h1 D' => ⟨(), rfl, ?_⟩
      rw [hR, show rdigX (rest s i).length false (rest s i0) = .ok (0, (rest s i0).tail) by unfold rdigX; rw [if_pos e, if_neg (by decide)]]
      exact ⟨h1, _, _, _, _, D', (rest_tail s i0).symm⟩
    · have e := eq_f e
      exact ⟨(), rfl, rfl, by omega⟩
  rintro ⟨⟩ g w2 ⟨rfl, h49⟩
  dsimp only
  have hne : (rest s i0).takeWhile isDig ≠ [] := by
    rcases dig_pk (rest s i0) with ⟨_, _, h⟩ | ⟨c, t, _, _, _, h, _⟩
    · omega
    · rw [h]; simp
  have hR2 : rintX (rest s i) = match numM neg ((rest s i0).takeWhile isDig) with
      | none => .error (29, (rest s i).length)
      | some v => .ok (v, (rest s i0).dropWhile isDig) := by
    rw [hR]; unfold rdigX; rw [if_neg (by omega), if_neg hne]; rfl
  refine loop_i mixed m165_19 s165_19 (by kernel_rfl) (by kernel_rfl)
    (fun (v : Int × Unit) w' => w' = w2 ∧ ∃ (j : Nat) (p : List UInt8), v.1 = j ∧ i0 ≤ j ∧ j ≤ s.size ∧ p.length = j - i0 ∧ (rest s i0).takeWhile isDig = p ++ (rest s j).takeWhile isDig ∧ (rest s i0).dropWhile isDig = (rest s j).dropWhile isDig)
    (fun (v : Int × Unit) _ => s.size - v.1.toNat) ((i0 : Int), ()) rfl ⟨rfl, i0, [], rfl, by omega, by omega, by simp, rfl, rfl⟩ ?_
  · intro v g w3 hv
    rw [t165_19]
    obtain ⟨a, ⟨⟩⟩ := v
    dsimp only at hv ⊢
    obtain ⟨hw3, j, p, ha, hij, hj, hpl, htw, hdw⟩ := hv
    subst hw3 ha
    have stop : ¬ (48 ≤ pk (rest s j) ∧ pk (rest s j) ≤ 57) → p = (rest s i0).takeWhile isDig ∧ (rest s i0).takeWhile isDig = (rest s i0).take (j - i0) ∧ (rest s i0).dropWhile isDig = rest s j := fun h => by
      rcases dig_pk (rest s j) with ⟨h1, h2, _⟩ | ⟨_, _, _, h1, _⟩
      · rw [h1, List.append_nil] at htw
        rw [h2] at hdw
        refine ⟨htw.symm, ?_, hdw⟩
        have := tw_take (rest s i0)
        rw [htw, hpl] at this
        rw [htw]; exact this
      · exact absurd h1 h
    have fin : ∀ (h : ¬ (48 ≤ pk (rest s j) ∧ pk (rest s j) ≤ 57)), (rest s i0).take (j - i0) = (rest s i0).takeWhile isDig ∧ rest s j = (rest s i0).dropWhile isDig ∧ 49 ≤ pk ((rest s i0).takeWhile isDig) := fun h => by
      obtain ⟨_, h2, h3⟩ := stop h
      refine ⟨h2.symm, h3.symm, ?_⟩
      rcases dig_pk (rest s i0) with ⟨h4, _⟩ | ⟨c, t, h4, _, _, h5, _⟩
      · exact absurd h4 hne
      · rw [h5]; rw [h4] at h49; exact h49
    refine ld_str (D.blk.cell 0) (br_both (fun e => ?_) fun e => ?_)
    · have hj' : j < s.size := by have := lt_t e; omega
      have hwj : IntKind.i64.wrap ((j : Int) + 1) = ((j + 1 : Nat) : Int) := wrap_succ (by omega) (by omega)
      refine ld_str (D.blk.cell 0) (bi_i (by omega) (by rw [Int.toNat_natCast]; exact hj') ?_)
      rw [pk_at hj']
      refine br_both (fun e1 => ?_) fun e1 => ?_
      · refine ld_str (D.blk.cell 0) (bi_i (by omega) (by rw [Int.toNat_natCast]; exact hj') ?_)
        rw [pk_at hj']
        refine br_both (fun e2 => ?_) fun e2 => ?_
        · have e1 := ge_t e1
          have e2 := le_t e2
          rw [hwj]
          rcases dig_pk (rest s j) with ⟨_, _, h⟩ | ⟨c, t, h4, _, _, h5, h6⟩
          · omega
          have ht : t = rest s (j + 1) := by rw [← rest_tail, h4]; rfl
          refine ⟨(((j + 1 : Nat) : Int), ()), rfl, ⟨rfl, j + 1, p ++ [c], rfl, by omega, hj', by rw [List.length_append, List.length_singleton]; omega, ?_, ?_⟩, by dsimp only; omega⟩
          · rw [htw, h5, ht, List.append_assoc]; rfl
          · rw [hdw, h6, ht]
        · have e2 := le_f e2
          obtain ⟨f1, f2, f3⟩ := fin (by omega)
          exact ⟨rfl, (_, ()), rfl, fun g => num_tail D hp neg i0 j hij hj _ _ f1 (tw_all _) f3 f2 _ hR2⟩
      · have e1 := ge_f e1
        obtain ⟨f1, f2, f3⟩ := fin (by omega)
        exact ⟨rfl, (_, ()), rfl, fun g => num_tail D hp neg i0 j hij hj _ _ f1 (tw_all _) f3 f2 _ hR2⟩
    · have e := lt_f e
      obtain ⟨f1, f2, f3⟩ := fin (fun h => by have := pk_lt s j (by omega); omega)
      exact ⟨rfl, (_, ()), rfl, fun g => num_tail D hp neg i0 j hij hj _ _ f1 (tw_all _) f3 f2 _ hR2⟩
end
end Go.Proofs.YtjlmkahagcojcaaGreatDoor.V
