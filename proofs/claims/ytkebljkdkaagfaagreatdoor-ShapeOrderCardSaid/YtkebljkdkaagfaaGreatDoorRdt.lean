/- The reader: escape, text. -/
import Derived.Test.YtkebljkdkaagfaaGreatDoorRdp
namespace Go.Proofs.YtkebljkdkaagfaaGreatDoor.V
open Go Tr
open Go.RowKit (Below)
open Go.Lib (decodeL byteCells)
set_option maxRecDepth 100000
theorem toNat_of (n : Nat) (h : n < 256) : (UInt8.ofNat n).toNat = n := by rw [UInt8.toNat_ofNat']; omega
def escM (l : List UInt8) : Option (UInt8 × List UInt8) :=
  if pk l = 34 then some (34, l.tail) else if pk l = 92 then some (92, l.tail) else if pk l = 110 then some (10, l.tail) else if pk l = 116 then some (9, l.tail)
  else if pk l = 120 then match hexP (pk l.tail), hexP (pk l.tail.tail) with
    | some x, some y => some (UInt8.ofNat (x * 16 + y), l.tail.tail.tail)
    | _, _ => none
  else none
theorem u8_is {c : UInt8} {n : Nat} (h : n < 256) : c = UInt8.ofNat n ↔ c.toNat = n := by
  constructor
  · rintro rfl; exact toNat_of n h
  · intro e; rw [← e]; simp
theorem readQ_esc (k : Nat) (acc l : List UInt8) : readQ (k + 1) acc (92 :: l) = (match escM l with
    | none => none
    | some (b, r) => readQ k (acc ++ [b]) r) := by
  conv => lhs; unfold readQ
  unfold escM
  rw [if_neg (by decide), if_pos rfl]
  cases l with
  | nil => rfl
  | cons e t =>
    dsimp only
    have i34 : e = 34 ↔ pk (e :: t) = 34 := u8_is (n := 34) (by decide)
    have i92 : e = 92 ↔ pk (e :: t) = 92 := u8_is (n := 92) (by decide)
    have i110 : e = 110 ↔ pk (e :: t) = 110 := u8_is (n := 110) (by decide)
    have i116 : e = 116 ↔ pk (e :: t) = 116 := u8_is (n := 116) (by decide)
    have i120 : e = 120 ↔ pk (e :: t) = 120 := u8_is (n := 120) (by decide)
    by_cases h1 : pk (e :: t) = 34
    · rw [if_pos h1, if_pos (.inl (i34.2 h1)), i34.2 h1]
      rfl
    rw [if_neg h1]
    by_cases h2 : pk (e :: t) = 92
    · rw [if_pos h2, if_pos (.inr (i92.2 h2)), i92.2 h2]
      rfl
    rw [if_neg h2, if_neg (fun h => h.elim (fun h => h1 (i34.1 h)) (fun h => h2 (i92.1 h)))]
    by_cases h3 : pk (e :: t) = 110
    · rw [if_pos h3, if_pos (i110.2 h3)]
      rfl
    rw [if_neg h3, if_neg (fun h => h3 (i110.1 h))]
    by_cases h4 : pk (e :: t) = 116
    · rw [if_pos h4, if_pos (i116.2 h4)]
      rfl
    rw [if_neg h4, if_neg (fun h => h4 (i116.1 h))]
    by_cases h5 : pk (e :: t) = 120
    · rw [if_pos h5, if_pos (i120.2 h5)]
      cases t with
      | nil => rfl
      | cons a t =>
        cases t with
        | nil =>
          have : hexP (pk ([] : List UInt8)) = none := rfl
          show none = (match (match hexP (pk [a]), hexP (pk []) with
            | some x, some y => some (UInt8.ofNat (x * 16 + y), ([] : List UInt8).tail)
            | _, _ => none) with
            | none => none
            | some (b, r) => readQ k (acc ++ [b]) r)
          rw [this]
          cases hexP (pk [a]) <;> rfl
        | cons b t =>
          have ha : hexV a = hexP (pk (a :: b :: t)) := rfl
          have hb : hexV b = hexP (pk (b :: t)) := rfl
          show (match hexV a, hexV b with
            | some x, some y => readQ k (acc ++ [UInt8.ofNat (x * 16 + y)]) t
            | _, _ => none) = (match (match hexP (pk (a :: b :: t)), hexP (pk (b :: t)) with
            | some x, some y => some (UInt8.ofNat (x * 16 + y), t)
            | _, _ => none) with
            | none => none
            | some (b, r) => readQ k (acc ++ [b]) r)
          rw [ha, hb]
          cases hexP (pk (a :: b :: t)) <;> cases hexP (pk (b :: t)) <;> rfl
    · rw [if_neg h5, if_neg (fun h => h5 (i120.1 h))]
theorem nib (x y : Nat) (hx : x < 16) (hy : y < 16) : IntKind.u8.wrap (((BitVec.ofInt IntKind.u8.bits (IntKind.u8.wrap ((x : Int) * 2 ^ Min.min (Int.toNat 4) IntKind.u8.bits)) ||| BitVec.ofInt IntKind.u8.bits (y : Int)).toNat : Nat) : Int) = ((UInt8.ofNat (x * 16 + y)).toNat : Int) := by
  have key : ∀ a b : Fin 16, IntKind.u8.wrap (((BitVec.ofInt IntKind.u8.bits (IntKind.u8.wrap ((a.val : Int) * 2 ^ Min.min (Int.toNat 4) IntKind.u8.bits)) ||| BitVec.ofInt IntKind.u8.bits (b.val : Int)).toNat : Nat) : Int) = ((UInt8.ofNat (a.val * 16 + b.val)).toNat : Int) := by decide +kernel
  exact key ⟨x, hx⟩ ⟨y, hy⟩
theorem escape_any (w : World) (nd : Nat) (s : ByteArray) (i : Nat) (parts : Int) (D : RdS w nd s i parts) :
    Calls Tryz.prog 111 #[.pointer (some ⟨nd, 0, none⟩)] w fun e w' => Ch (· = nd) w w' ∧ match escX (rest s i) with
      | .ok (b, l') => e = .returned (.int .u8 b.toNat) ∧ ∃ i', RdS w' nd s i' parts ∧ l' = rest s i' ∧ i < i'
      | .error f => RBad s f e := by
  refine calls_of_fnT mixed Tryz.func111 (s := s111) ?_
  rw [t111]
  simp only [addr_add, Nat.zero_add]
  refine cl_i (peek_any w nd s i parts D) ?_
  rintro e w1 ⟨rfl, h1⟩
  refine ⟨_, rfl, ?_⟩
  have D1 := D.no h1
  refine cut_i mixed s111_2 (fun (v : Bool × Unit) w' => w' = w1 ∧ v.1 = decide (pk (rest s i) = 34 ∨ pk (rest s i) = 92)) (by kernel_rfl) (fun g => ?_) ?_
  · rw [t111_2]
    refine br_both (fun e => ⟨rfl, (true, ()), rfl, rfl, ?_⟩) fun e => ⟨rfl, ((pk (rest s i) : Int) == 92, ()), rfl, rfl, ?_⟩
    · have e : (pk (rest s i) : Int) = 34 := by simpa using e
      exact (decide_eq_true (.inl (by omega))).symm
    · have e : ¬ (pk (rest s i) : Int) = 34 := by simpa using e
      show ((pk (rest s i) : Int) == 92) = _
      by_cases h9 : pk (rest s i) = 92
      · rw [h9]; rfl
      · rw [decide_eq_false (by omega), beq_eq_false_iff_ne]
        omega
  rintro ⟨v, ⟨⟩⟩ g w2 ⟨rfl, hv⟩
  dsimp only at hv
  subst hv
  have ok : ∀ (b : UInt8) (v : Int), pk (rest s i) ≠ 0 → escX (rest s i) = .ok (b, (rest s i).tail) → v = b.toNat → ∀ w3, Ch (· = nd) w2 w3 → RdS w3 nd s (i + 1) parts → (Ch (· = nd) w w3 ∧ match escX (rest s i) with
      | .ok (b, l') => Ending.returned (.int .u8 v) = .returned (.int .u8 b.toNat) ∧ ∃ i', RdS w3 nd s i' parts ∧ l' = rest s i' ∧ i < i'
      | .error f => RBad s f (.returned (.int .u8 v))) := by
    intro b v _ he hv w3 h3 D3
    refine ⟨h1.no.trans h3, ?_⟩
    rw [he]
    exact ⟨by rw [hv], i + 1, D3, rest_tail s i, by omega⟩
  refine br_both (fun e => ?_) fun e1 => br_both (fun e => ?_) fun e2 => br_both (fun e => ?_) fun e3 => br_both (fun e => ?_) fun e4 => ?_
  · have e := of_decide_eq_true e
    refine ld_int D1.c1 (at_next D1 (pk_lt s i (by omega)) fun w3 h3 D3 => ?_)
    rcases e with e | e
    · exact ok 34 _ (by omega) (by unfold escX; rw [if_pos e]) (by rw [e]; rfl) w3 h3 D3
    · exact ok 92 _ (by omega) (by unfold escX; rw [if_neg (by omega), if_pos e]) (by rw [e]; rfl) w3 h3 D3
  · have e1 := of_decide_eq_false e1
    have e : (pk (rest s i) : Int) = 110 := by simpa using e
    refine ld_int D1.c1 (at_next D1 (pk_lt s i (by omega)) fun w3 h3 D3 => ?_)
    exact ok 10 _ (by omega) (by unfold escX; rw [if_neg (by omega), if_neg (by omega), if_pos (by omega)]) rfl w3 h3 D3
  · have e1 := of_decide_eq_false e1
    have e2 : ¬ (pk (rest s i) : Int) = 110 := by simpa using e2
    have e : (pk (rest s i) : Int) = 116 := by simpa using e
    refine ld_int D1.c1 (at_next D1 (pk_lt s i (by omega)) fun w3 h3 D3 => ?_)
    exact ok 9 _ (by omega) (by unfold escX; rw [if_neg (by omega), if_neg (by omega), if_neg (by omega), if_pos (by omega)]) rfl w3 h3 D3
  · have e1 := of_decide_eq_false e1
    have e2 : ¬ (pk (rest s i) : Int) = 110 := by simpa using e2
    have e3 : ¬ (pk (rest s i) : Int) = 116 := by simpa using e3
    have e : (pk (rest s i) : Int) = 120 := by simpa using e
    refine ld_int D1.c1 (at_next D1 (pk_lt s i (by omega)) fun w3 h3 D3 => ?_)
    have he : escX (rest s i) = (match hexP (pk (rest s (i + 1))) with
      | none => .error (28, (rest s (i + 1)).length)
      | some x => match hexP (pk (rest s (i + 2))) with
        | none => .error (28, (rest s (i + 2)).length)
        | some y => .ok (UInt8.ofNat (x * 16 + y), rest s (i + 3))) := by
      unfold escX
      rw [if_neg (by omega), if_neg (by omega), if_neg (by omega), if_neg (by omega), if_pos (by omega), rest_tail, rest_tail, rest_tail]
      rfl
    rw [he]
    refine cp_i (hex_any w3 nd s (i + 1) parts D3) ?_
    rintro r w4 ⟨h4, hr⟩
    have H4 := h1.no.trans (h3.trans h4)
    cases hx : hexP (pk (rest s (i + 1))) with
    | none =>
      rw [hx] at hr
      exact .inr ⟨_, hr, H4, rfl⟩
    | some x =>
      rw [hx] at hr
      obtain ⟨rfl, D4⟩ := hr
      refine .inl ⟨_, rfl, cp_i (hex_any w4 nd s (i + 1 + 1) parts D4) ?_⟩
      rintro r w5 ⟨h5, hr⟩
      cases hy : hexP (pk (rest s (i + 2))) with
      | none =>
        rw [show i + 1 + 1 = i + 2 by omega, hy] at hr
        exact .inr ⟨_, hr, H4.trans h5, rfl⟩
      | some y =>
        rw [show i + 1 + 1 = i + 2 by omega, hy] at hr
        obtain ⟨rfl, D5⟩ := hr
        refine .inl ⟨_, rfl, H4.trans h5, ?_⟩
        rw [nib x y (hexP_lt hx) (hexP_lt hy)]
        exact ⟨rfl, i + 3, D5, rfl, by omega⟩
  · have e1 := of_decide_eq_false e1
    have e2 : ¬ (pk (rest s i) : Int) = 110 := by simpa using e2
    have e3 : ¬ (pk (rest s i) : Int) = 116 := by simpa using e3
    have e4 : ¬ (pk (rest s i) : Int) = 120 := by simpa using e4
    refine ld_int D1.c1 (cx_i (rfail_any _ _ _ w2) ?_)
    rintro r w3 ⟨rfl, rfl⟩
    refine ⟨_, rfl, h1.no, ?_⟩
    have he : escX (rest s i) = .error (28, (rest s i).length) := by
      unfold escX
      rw [if_neg (by omega), if_neg (by omega), if_neg (by omega), if_neg (by omega), if_neg (by omega)]
    rw [he]
    exact RBad.mk 28 D1.le
/-! the tree of function 90 -/
abbrev fx90_3 (qa0 : Addr) (x1 : Int) : List (Tmp × Value) := [(0, .pointer (some qa0)), (2, .string (bytesL [])), (3, .int .i64 x1)]
abbrev m90_3 : List (Tmp × Comp) := [(4, .leaf .sl)]
abbrev mx90_3 : List (Tmp × Comp) := [(4, .leaf .sl)]
abbrev mr90_3 : List (Tmp × Comp) := []
abbrev fx90_11 (qa0 : Addr) (x1 : Int) (l_4 : Option Addr × Nat × Nat) (x4 : Int) : List (Tmp × Value) := [(0, .pointer (some qa0)), (3, .int .i64 x1), (4, .slice l_4.1 l_4.2.1 l_4.2.2), (5, .int .u8 x4)]
abbrev mx90_11 : List (Tmp × Comp) := [(46, .leaf .bool)]
def s90_11 : Script := .sym (.lit (.lit .nil)) (.lit (.lit .nil))
theorem t90_11 (qa0 : Addr) (x1 : Int) (l_4 : Option Addr × Nat × Nat) (x4 : Int) (gg11 : Nat → Value) : pieceT Tryz.prog (at_ Tryz.f90 [1, 0, 1, 1, 1, 1, 0, 0, 0, 0, 1, 0, 0, 1, 1, 1, 1, 0]) 122 (fx90_11 qa0 x1 l_4 x4) gg11 (mx90_11.map (·.1)) [] [] s90_11 = .br (Decidable.decide (x4 ≥ 32)) (.fin .normal [(46, .bool (Decidable.decide (x4 ≤ 126)))]) (.fin .normal [(46, .bool false)]) := by kernel_rfl
abbrev fx90_19 (qa0 : Addr) (x1 : Int) (l_4 : Option Addr × Nat × Nat) (x4 : Int) (r18 : Int × Int × Unit) : List (Tmp × Value) := [(0, .pointer (some qa0)), (3, .int .i64 x1), (4, .slice l_4.1 l_4.2.1 l_4.2.2), (5, .int .u8 x4), (7, .int .i64 r18.2.1)]
abbrev mx90_19 : List (Tmp × Comp) := []
def s90_19 : Script := .sym (.lit (.lit (.lit (.ld (.int .i64) (.clx .nil))))) (.lit (.lit (.sym (.ld (.int .i64) (.clx .nil)) .nil)))
theorem t90_19 (qa0 : Addr) (x1 : Int) (l_4 : Option Addr × Nat × Nat) (x4 : Int) (r18 : Int × Int × Unit) (gg19 : Nat → Value) : pieceT Tryz.prog (at_ Tryz.f90 [1, 0, 1, 1, 1, 1, 0, 0, 0, 0, 1, 1, 1, 0]) 122 (fx90_19 qa0 x1 l_4 x4 r18) gg19 (mx90_19.map (·.1)) [] [] s90_19 = .br (Decidable.decide (x4 < 128)) (.load (qa0.add 1) (.int .i64) (fun x20 => .callx 72 #[.pointer (some qa0), .int .i64 28, .int .i64 x20] (fun ch21 => .done (.panicked ch21)))) (.br (Decidable.decide (r18.snd.fst < 2)) (.load (qa0.add 1) (.int .i64) (fun x22 => .callx 72 #[.pointer (some qa0), .int .i64 28, .int .i64 x22] (fun ch23 => .done (.panicked ch23)))) (.fin .normal [])) := by kernel_rfl
def s90_3 : Script := .cl (.one (.leaf (.int .u8))) (.sym (.ld (.int .i64) .nil) (.sym (.ld (.int .i64) (.clp (.one (.leaf (.int .u8))) (.nop (.rn (.one (.leaf .sl)) .nil)) .nil)) (.ct 0 [0, 3, 4, 5] mx90_11 (.sym (.nop (.nop (.nop (.rn (.one (.leaf .sl)) (.ld (.int .i64) .nil))))) (.qt (.ld .str (.ld (.int .i64) (.nd (.cl (.tup [.leaf (.int .i32), .leaf (.int .i64)]) (.ct 0 [0, 3, 4, 5, 7] mx90_19 (.hd0 (.hq 0 (.hq 1 (.hq 2 (.hq 3 (.hq 4 (.ld .str (.hq 5 (.hq 6 (.hq 7 (.hq 8 (.ld (.int .i64) (.hq 9 (.hq 10 (.hq 11 (.hq 12 (.ld (.int .i64) (.hq 13 (.hq 14 (.hq 15 (.nd (.he 16 (.rn (.one (.leaf .sl)) (.hq 17 (.ld (.int .i64) .nil)))))))))))))))))))))))))))))))))))
theorem t90_3 (qa0 : Addr) (x1 : Int) (l_4 : Option Addr × Nat × Nat) (gg3 : Nat → Value) : pieceT Tryz.prog (at_ Tryz.f90 [1, 0, 1, 1, 1, 1, 0, 0, 0]) 122 (fx90_3 qa0 x1 ++ mvals m90_3 (l_4, ())) gg3 (m90_3.map (·.1)) (mx90_3.map (·.1)) (mr90_3.map (·.1)) s90_3 = .call 88 #[.pointer (some qa0)] (.one (.leaf (.int .u8))) (fun x4 => .br (x4 == 34) (.load (qa0.add 1) (.int .i64) (fun x5 => .store (qa0.add 1) (.int .i64 (IntKind.i64.wrap (x5 + 1))) (.fin (.exit 0) [(4, .slice l_4.1 l_4.2.1 l_4.2.2)]))) (.br (x4 == 92) (.load (qa0.add 1) (.int .i64) (fun x6 => .store (qa0.add 1) (.int .i64 (IntKind.i64.wrap (x6 + 1))) (.callp 111 #[.pointer (some qa0)] (.one (.leaf (.int .u8))) (fun x7 => .new (.cells #[.int .u8 x7] 5 (0, 0)) (fun n8 => .run (builtin .append #[43, 43] 43 #[false, false] #[.slice l_4.1 l_4.2.1 l_4.2.2, .slice (some ⟨n8, 0, none⟩) 1 1]) (.one (.leaf .sl)) (fun l9 => .fin .normal [(4, .slice l9.1 l9.2.1 l9.2.2)]))) (fun ch10 => .done (.panicked ch10))))) (.cut (at_ Tryz.f90 [1, 0, 1, 1, 1, 1, 0, 0, 0, 0, 1, 0, 0, 1, 1, 1, 1, 0]) 122 (fx90_11 qa0 x1 l_4 x4) mx90_11 (fun u12 g12 => .br u12.1 (.new (.cells #[.int .u8 x4] 5 (0, 0)) (fun n13 => .run (builtin .append #[43, 43] 43 #[false, false] #[.slice l_4.1 l_4.2.1 l_4.2.2, .slice (some ⟨n13, 0, none⟩) 1 1]) (.one (.leaf .sl)) (fun l14 => .load (qa0.add 1) (.int .i64) (fun x15 => .store (qa0.add 1) (.int .i64 (IntKind.i64.wrap (x15 + 1))) (.fin .normal [(4, .slice l14.1 l14.2.1 l14.2.2)]))))) (.drawn (.load qa0 .str (fun s16 => .load (qa0.add 1) (.int .i64) (fun x17 => .need (Decidable.decide (0 ≤ x17 ∧ x17 ≤ (↑s16.size : Int) ∧ (↑s16.size : Int) ≤ (↑s16.size : Int))) (.call 112 #[.string (s16.extract x17.toNat s16.size)] (.tup [.leaf (.int .i32), .leaf (.int .i64)]) (fun r18 => .undrawn (.cut (at_ Tryz.f90 [1, 0, 1, 1, 1, 1, 0, 0, 0, 0, 1, 1, 1, 0]) 122 (fx90_19 qa0 x1 l_4 x4 r18) mx90_19 (fun u24 g24 => .hdrawn (.load qa0 .str (fun s25 => .load (qa0.add 1) (.int .i64) (fun x26 => .load (qa0.add 1) (.int .i64) (fun x27 => .need (Decidable.decide (0 ≤ x26 ∧ x26 ≤ IntKind.i64.wrap (x27 + r18.snd.fst) ∧ IntKind.i64.wrap (x27 + r18.snd.fst) ≤ (↑s25.size : Int))) (.eff (.run (builtin .append #[43, 9] 43 #[false, false] #[.slice l_4.1 l_4.2.1 l_4.2.2, .string (s25.extract x26.toNat (IntKind.i64.wrap (x27 + r18.snd.fst)).toNat)]) (.one (.leaf .sl)) (fun l28 => .back (.undrawn (.load (qa0.add 1) (.int .i64) (fun x29 => .store (qa0.add 1) (.int .i64 (IntKind.i64.wrap (x29 + r18.snd.fst))) (.fin .normal [(4, .slice l28.1 l28.2.1 l28.2.2)]))))))))))))))))))))))) := by kernel_rfl
def s90 : Script := .ld (.int .i64) (.ld (.int .i64) (.lp 0 [0, 2, 3] [4] mx90_3 mr90_3 (.sym (.clx .nil) (.nop (.rn (.one (.leaf .str)) .nil))) .nil))
theorem t90 (qa0 : Addr) : fnT Tryz.prog Tryz.f90 #[.pointer (some qa0)] s90 = .load (qa0.add 1) (.int .i64) (fun x1 => .load (qa0.add 1) (.int .i64) (fun x2 => .store (qa0.add 1) (.int .i64 (IntKind.i64.wrap (x2 + 1))) (.loop (at_ Tryz.f90 [1, 0, 1, 1, 1, 1, 0, 0, 0]) 122 (fx90_3 qa0 x1) [(4, .slice none 0 0)] mx90_3 mr90_3 0 (fun u30 g30 => .br (Decidable.decide ((↑u30.fst.snd.fst : Int) > 24)) (.callx 72 #[.pointer (some qa0), .int .i64 21, .int .i64 x1] (fun ch31 => .done (.panicked ch31))) (.run (vNext (convert 43 9 (.slice u30.1.1 u30.1.2.1 u30.1.2.2))) (.one (.leaf .str)) (fun s32 => .done (.returned (.string s32))))) (fun u33 g33 => .stuck)))) := by kernel_rfl
theorem readQ_plain (k : Nat) (acc l : List UInt8) (h1 : pk l ≠ 34) (h2 : pk l ≠ 92) (h3 : 32 ≤ pk l ∧ pk l ≤ 126) : readQ (k + 1) acc l = readQ k (acc ++ [UInt8.ofNat (pk l)]) l.tail := by
  cases l with
  | nil => exact absurd h3.1 (by decide)
  | cons c t =>
    conv => lhs; unfold readQ
    rw [if_neg (fun e => h1 (by rw [e]; rfl)), if_neg (fun e => h2 (by rw [e]; rfl)), if_pos (show 32 ≤ c.toNat ∧ c.toNat ≤ 126 from h3)]
    have : UInt8.ofNat (pk (c :: t)) = c := by show UInt8.ofNat c.toNat = c; simp
    rw [this]; rfl
theorem readQ_rune (k : Nat) (acc l : List UInt8) (h1 : pk l ≠ 34) (h2 : pk l ≠ 92) (h3 : ¬ (32 ≤ pk l ∧ pk l ≤ 126)) : readQ (k + 1) acc l = (if pk l < 128 ∨ (decodeL l).2 < 2 then none else readQ k (acc ++ l.take (decodeL l).2) (l.drop (decodeL l).2)) := by
  cases l with
  | nil => rfl
  | cons c t =>
    conv => lhs; unfold readQ
    rw [if_neg (fun e => h1 (by rw [e]; rfl)), if_neg (fun e => h2 (by rw [e]; rfl)), if_neg (show ¬ (32 ≤ c.toNat ∧ c.toNat ≤ 126) from h3)]
    rfl
theorem readQ_end (k : Nat) (acc l : List UInt8) (h : pk l = 34) : readQ (k + 1) acc l = some (acc, l.tail) := by
  cases l with
  | nil => exact absurd h (by decide)
  | cons c t =>
    unfold readQ
    have hc : c = 34 := (u8_is (n := 34) (by decide)).2 h
    rw [if_pos hc]; rfl
theorem readQ_back (k : Nat) (acc l : List UInt8) (h : pk l = 92) : readQ (k + 1) acc l = (match escM l.tail with
    | none => none
    | some (b, r) => readQ k (acc ++ [b]) r) := by
  cases l with
  | nil => exact absurd h (by decide)
  | cons c t =>
    have hc : c = 92 := (u8_is (n := 92) (by decide)).2 h
    subst hc
    exact readQ_esc k acc t
theorem extract_list (s : ByteArray) (a b : Nat) : (s.extract a b).data.toList = (rest s a).take (b - a) := by
  simp [ByteArray.data_extract, Array.toList_extract, List.extract_eq_take_drop, rest]
theorem rtext_any (w : World) (nd : Nat) (s : ByteArray) (i : Nat) (parts : Int) (D : RdS w nd s i parts) (hT : Tabs w) (h7 : 11 ≤ nd) (hp : pk (rest s i) = 34) :
    Calls Tryz.prog 90 #[.pointer (some ⟨nd, 0, none⟩)] w fun e w' => Ch (· = nd) w w' ∧ match rtextX (rest s i) with
      | .ok (x, l') => e = .returned (.string x) ∧ ∃ i', RdS w' nd s i' parts ∧ l' = rest s i'
      | .error f => RBad s f e := by
  refine calls_of_fnT mixed Tryz.func90 (s := s90) ?_
  rw [t90]
  simp only [addr_add, Nat.zero_add]
  have hlt := pk_lt s i (by omega)
  have hbig := D.big
  have hnd := D.blk.lt
  refine ld_int D.c1 (ld_int D.c1 (at_next D hlt fun w1 h1 D1 => ?_))
  have hrt : rtextX (rest s i) = (match readX ((rest s (i + 1)).length + 1) [] (rest s (i + 1)) with
      | .error e => .error e
      | .ok (b, r) => if b.length > 24 then .error (21, (rest s i).length) else .ok (⟨b.toArray⟩, r)) := by
    unfold rtextX
    rw [rest_tail]
    rfl
  have hs1 := h1.size
  have lenR : ∀ j, (rest s j).length = s.size - j := fun j => by show (List.drop j _).length = _; rw [List.length_drop, sizeB]
  refine loop_i mixed m90_3 s90_3 (by kernel_rfl) (by kernel_rfl)
    (fun (v : (Option Addr × Nat × Nat) × Unit) w' => ∃ (j f : Nat) (acc : List UInt8), RowB w' w1.heap.size v.1.1 v.1.2.1 v.1.2.2 acc ∧ RdS w' nd s j parts ∧ Ch (· = nd) w w' ∧ w1.heap.size ≤ w'.heap.size ∧ Tabs w' ∧ acc.length ≤ j ∧ (rest s j).length < f ∧ readX ((rest s (i + 1)).length + 1) [] (rest s (i + 1)) = readX f acc (rest s j))
    (fun (v : (Option Addr × Nat × Nat) × Unit) w' => match w'.cell? ⟨nd, 1, none⟩ with
      | some (.int _ x) => s.size - x.toNat
      | _ => 0) ((none, 0, 0), ()) rfl
    ⟨i + 1, (rest s (i + 1)).length + 1, [], Row.nil _ _ _ _, D1, h1, Nat.le_refl _, hT.ch (base := nd) (h1.mono fun k (h : k = nd) => by show nd ≤ k; omega) h7, by simp, by omega, rfl⟩ ?_
  rintro ⟨⟨q, n, c⟩, ⟨⟩⟩ g w2 ⟨j, f, acc, R2, D2, h2, s2, T2, hacc, hf, hm⟩
  rw [t90_3]
  simp only [addr_add, Nat.zero_add]
  dsimp only at R2
  obtain ⟨f, rfl⟩ : ∃ f', f = f' + 1 := ⟨f - 1, by omega⟩
  have hn := R2.len
  have hj := D2.le
  refine cl_i (peek_any w2 nd s j parts D2) ?_
  rintro e w3 ⟨rfl, h3⟩
  refine ⟨_, rfl, ?_⟩
  have D3 := D2.no h3
  have R3 : RowB w3 w1.heap.size q n c acc := Row.no R2 h3
  have T3 := T2.no h3
  have H3 := h2.trans h3.no
  have s3 := h3.size
  have ndrow : ∀ {w' : World} {q : Option Addr} {n c : Nat} {acc : List UInt8}, RowB w' w1.heap.size q n c acc → ¬ rowS q n c nd := fun R h => by have := (Row.lt R h).1; omega
  have again : ∀ (q' : Option Addr) (n' c' : Nat) (j' : Nat) (acc' : List UInt8) (w' : World), RowB w' w1.heap.size q' n' c' acc' → RdS w' nd s j' parts → Ch (fun k => nd ≤ k) w3 w' → Ch (· = nd) w w' → acc'.length ≤ j' → j < j' → readX (f + 1) acc (rest s j) = readX f acc' (rest s j') →
      ∃ v' : (Option Addr × Nat × Nat) × Unit, [((4 : Nat), Value.slice q' n' c')] = mvals m90_3 v' ∧ (∃ (j f : Nat) (acc : List UInt8), RowB w' w1.heap.size v'.1.1 v'.1.2.1 v'.1.2.2 acc ∧ RdS w' nd s j parts ∧ Ch (· = nd) w w' ∧ w1.heap.size ≤ w'.heap.size ∧ Tabs w' ∧ acc.length ≤ j ∧ (rest s j).length < f ∧ readX ((rest s (i + 1)).length + 1) [] (rest s (i + 1)) = readX f acc (rest s j)) ∧
        (match w'.cell? ⟨nd, 1, none⟩ with
      | some (.int _ x) => s.size - x.toNat
      | _ => 0) < (match w2.cell? ⟨nd, 1, none⟩ with
      | some (.int _ x) => s.size - x.toNat
      | _ => 0) := by
    intro q' n' c' j' acc' w' R' D' hc3 hc ha hjj hq
    have := hc3.size
    refine ⟨((q', n', c'), ()), rfl, ⟨j', f, acc', R', D', hc, by omega, T3.ch (base := nd) hc3 h7, ha, ?_, ?_⟩, ?_⟩
    · rw [lenR] at hf ⊢; have := D'.le; omega
    · rw [hm, hq]
    · rw [D2.c1, D'.c1]
      show s.size - (j' : Int).toNat < s.size - (j : Int).toNat
      rw [Int.toNat_natCast, Int.toNat_natCast]
      have := D'.le; omega
  refine br_both (fun e => ?_) fun e1 => br_both (fun e => ?_) fun e2 => ?_
  · have e : (pk (rest s j) : Int) = 34 := by simpa using e
    have hjl := pk_lt s j (by omega)
    refine ld_int D3.c1 (at_next D3 hjl fun w4 h4 D4 => ?_)
    refine ⟨rfl, ((q, n, c), ()), rfl, fun g => ?_⟩
    have hr : rtextX (rest s i) = (if acc.length > 24 then .error (21, (rest s i).length) else .ok (⟨acc.toArray⟩, rest s (j + 1))) := by
      rw [hrt, hm, readX_end _ _ _ (by omega), rest_tail]
    have R4 : RowB w4 w1.heap.size q n c acc := Row.ch R3 h4 (fun k hk e => ndrow R3 (by rw [← (show k = nd from e)]; exact hk))
    refine br_both (fun e => ?_) fun e => ?_
    · have e : (n : Int) > 24 := of_decide_eq_true e
      refine cx_i (rfail_any _ _ _ w4) ?_
      rintro r w5 ⟨rfl, rfl⟩
      refine ⟨_, rfl, H3.trans h4, ?_⟩
      rw [hr, if_pos (by omega)]
      exact RBad.mk 21 D.le
    · have e : ¬ (n : Int) > 24 := of_decide_eq_false e
      refine cv_b R4.at ⟨H3.trans h4, ?_⟩
      rw [hr, if_neg (by omega)]
      exact ⟨rfl, j + 1, D4, rfl⟩
  · have e1 : ¬ (pk (rest s j) : Int) = 34 := by simpa using e1
    have e : (pk (rest s j) : Int) = 92 := by simpa using e
    have hjl := pk_lt s j (by omega)
    refine ld_int D3.c1 (at_next D3 hjl fun w4 h4 D4 => ?_)
    refine cp_i (escape_any w4 nd s (j + 1) parts D4) ?_
    rintro r w5 ⟨h5, hr⟩
    have hb := readX_back f acc (rest s j) (by omega)
    rw [rest_tail] at hb
    cases hx : escX (rest s (j + 1)) with
    | error f =>
      rw [hx] at hr hb
      refine .inr ⟨_, hr, H3.trans (h4.trans h5), ?_⟩
      have : rtextX (rest s i) = .error f := by rw [hrt, hm, hb]
      rw [this]
      rfl
    | ok y =>
      obtain ⟨b, l'⟩ := y
      rw [hx] at hr hb
      obtain ⟨rfl, i', D5, rfl, hi'⟩ := hr
      refine .inl ⟨_, rfl, ?_⟩
      have h35 := h4.trans h5
      have R5 : RowB w5 w1.heap.size q n c acc := Row.ch R3 h35 (fun k hk e => ndrow R3 (by rw [← (show k = nd from e)]; exact hk))
      have s5 := h35.size
      refine nw fun w6 h6 z6 b6 => ?_
      refine ap_b (Row.no R5 h6) (by omega) b6 [b] rfl rfl (by have := D5.le; omega) ?_
      intro q' c' w7 g7
      have R6 : RowB w6 w1.heap.size q n c acc := Row.no R5 h6
      have rlo : ∀ k, rowS q n c k → w1.heap.size ≤ k := fun k hk => (Row.lt R6 hk).1
      refine again q' (n + 1) c' i' (acc ++ [b]) w7 g7.own ((D5.no h6).keep g7.ch (ndrow R6)) ?_ ?_ (by simp; omega) (by omega) hb
      · exact (h35.mono fun k (h : k = nd) => by show nd ≤ k; omega).trans (h6.no.trans (g7.ch.mono fun k hk => by have := rlo k hk; show nd ≤ k; omega))
      · exact (H3.trans (h35.trans h6.no)).then_ g7.ch (fun k hk hr => by have := rlo k hr; omega)
  have e1 : ¬ (pk (rest s j) : Int) = 34 := by simpa using e1
  have e2 : ¬ (pk (rest s j) : Int) = 92 := by simpa using e2
  refine cut_i mixed s90_11 (fun (v : Bool × Unit) w' => w' = w3 ∧ v.1 = decide (32 ≤ pk (rest s j) ∧ pk (rest s j) ≤ 126)) (by kernel_rfl) (fun g => ?_) ?_
  · rw [t90_11]
    exact br_both (fun e => ⟨rfl, (decide ((pk (rest s j) : Int) ≤ 126), ()), rfl, rfl, two_t (a := 32) (b := 126) e⟩) fun e => ⟨rfl, (false, ()), rfl, rfl, two_f (a := 32) (b := 126) e⟩
  rintro ⟨v, ⟨⟩⟩ g w4 ⟨rfl, hv⟩
  dsimp only at hv
  subst hv
  refine br_both (fun e => ?_) fun e3 => ?_
  · have e := of_decide_eq_true e
    have hjl := pk_lt s j (by omega)
    have hb := readX_plain f acc (rest s j) (by omega) (by omega) e
    rw [rest_tail] at hb
    refine nw fun w5 h5 z5 b5 => ?_
    have R5 : RowB w5 w1.heap.size q n c acc := Row.no R3 h5
    have rlo : ∀ k, rowS q n c k → w1.heap.size ≤ k := fun k hk => (Row.lt R5 hk).1
    refine ap_b R5 (by omega) b5 [UInt8.ofNat (pk (rest s j))] ?_ rfl (by omega) ?_
    · have := pk_256 (rest s j)
      simp only [byteCells, List.map_cons, List.map_nil, toNat_of _ this]
    intro q' c' w6 g6
    have D6 := (D3.no h5).keep g6.ch (ndrow R5)
    refine ld_int D6.c1 (at_next D6 hjl fun w7 h7' D7 => ?_)
    have R6 : RowB w6 w1.heap.size q' (n + 1) c' (acc ++ [UInt8.ofNat (pk (rest s j))]) := g6.own
    refine again q' (n + 1) c' (j + 1) _ w7 (Row.ch R6 h7' (fun k hk e => ndrow R6 (by rw [← (show k = nd from e)]; exact hk))) D7 ?_ ?_ (by simp; omega) (by omega) hb
    · exact h5.no.trans ((g6.ch.mono fun k hk => by have := rlo k hk; show nd ≤ k; omega).trans (h7'.mono fun k (h : k = nd) => by show nd ≤ k; omega))
    · exact ((H3.trans h5.no).then_ g6.ch (fun k hk hr => by have := rlo k hr; omega)).trans h7'
  have e3 := of_decide_eq_false e3
  have hb := readX_rune f acc (rest s j) (by omega) (by omega) e3
  refine ⟨fun w'' => Ch No w4 w'', (Ch.refl _ _).drew, _, fun w'' h => (D3.no h).c0, _, fun w'' h => (D3.no h).c1, ?_⟩
  show wpT _ _ _ (.need (decide (0 ≤ (j : Int) ∧ (j : Int) ≤ (s.size : Int) ∧ (s.size : Int) ≤ (s.size : Int))) _) _ _
  refine ⟨decide_eq_true ⟨by omega, by omega, by omega⟩, ?_⟩
  rw [Int.toNat_natCast]
  refine ⟨(((Lib.decodeGo (s.extract j s.size)).1 : Int), ((Lib.decodeGo (s.extract j s.size)).2 : Int), ()), fun w'' h => (Tryz.utf8_DecodeRuneInString (s.extract j s.size) w'' (T3.no h).1).mono fun e w3 ⟨he, hb⟩ => ⟨he, h.trans (Ch.of_below hb)⟩, fun w5 h5 => ?_⟩
  have D5 := D3.no h5
  have R5 : RowB w5 w1.heap.size q n c acc := Row.no R3 h5
  have s5 := h5.size
  have no28 : ∀ w', RdS w' nd s j parts → Ch (· = nd) w w' → rtextX (rest s i) = .error (28, (rest s j).length) → Ch (· = nd) w w' ∧ match rtextX (rest s i) with
      | .ok (x, l') => Ending.panicked (thrown 28 j) = .returned (.string x) ∧ ∃ i', RdS w' nd s i' parts ∧ l' = rest s i'
      | .error f => RBad s f (.panicked (thrown 28 j)) := by
    intro w' D' hc hh
    refine ⟨hc, ?_⟩
    rw [hh]
    exact RBad.mk 28 D'.le
  have hwd : j < s.size → Lib.decodeGo (s.extract j s.size) = decodeL (rest s j) ∧ j + (decodeL (rest s j)).2 ≤ s.size := fun h => by
    have := decode_in s j h
    rw [drop_decode] at this
    exact this
  refine cut_i mixed s90_19 (fun (v : Unit) w' => w' = w5 ∧ ¬ pk (rest s j) < 128 ∧ ¬ (decodeL (rest s j)).2 < 2) (by kernel_rfl) (fun g => ?_) ?_
  · rw [t90_19]
    simp only [addr_add, Nat.zero_add]
    refine br_both (fun e => ?_) fun e4 => br_both (fun e => ?_) fun e5 => ?_
    · have e : (pk (rest s j) : Int) < 128 := of_decide_eq_true e
      refine ld_int D5.c1 (cx_i (rfail_any _ _ _ w5) ?_)
      rintro r w6 ⟨rfl, rfl⟩
      refine ⟨_, rfl, no28 _ D5 (H3.trans h5.no) ?_⟩
      rw [hrt, hm, hb, if_pos (.inl (by omega))]
    · have e4 : ¬ (pk (rest s j) : Int) < 128 := of_decide_eq_false e4
      have e : ((Lib.decodeGo (s.extract j s.size)).2 : Int) < 2 := of_decide_eq_true e
      obtain ⟨hd, _⟩ := hwd (pk_lt s j (by omega))
      rw [hd] at e
      refine ld_int D5.c1 (cx_i (rfail_any _ _ _ w5) ?_)
      rintro r w6 ⟨rfl, rfl⟩
      refine ⟨_, rfl, no28 _ D5 (H3.trans h5.no) ?_⟩
      rw [hrt, hm, hb, if_pos (.inr (by omega))]
    · have e4 : ¬ (pk (rest s j) : Int) < 128 := of_decide_eq_false e4
      have e5 : ¬ ((Lib.decodeGo (s.extract j s.size)).2 : Int) < 2 := of_decide_eq_false e5
      obtain ⟨hd, _⟩ := hwd (pk_lt s j (by omega))
      rw [hd] at e5
      exact ⟨rfl, (), rfl, rfl, by omega, by omega⟩
  rintro ⟨⟩ g w6 ⟨rfl, f1, f2⟩
  have hjl := pk_lt s j (by omega)
  obtain ⟨hd, hwl⟩ := hwd hjl
  rw [hd]
  rw [if_neg (by omega)] at hb
  generalize hwdt : (decodeL (rest s j)).2 = wd at *
  have hwj : IntKind.i64.wrap ((j : Int) + (wd : Int)) = ((j + wd : Nat) : Int) := by rw [IntKind.wrap_i64]; omega
  have hdr : Ch No w6 w6.drew := (Ch.refl _ _).drew
  refine ⟨fun w'' => RdS w'' nd s j parts, D5.no hdr, ?_⟩
  replace D5 := D5.no hdr
  replace R5 : RowB w6.drew w1.heap.size q n c acc := Row.no R5 hdr
  have H6 := (H3.trans h5.no).trans hdr.no
  have h36 : Ch No w4 w6.drew := h5.trans hdr
  have s6 := hdr.size
  generalize w6.drew = w7 at *
  refine lh_str (x := s) (fun w'' h => h.c0) (lh_int (x := (j : Int)) (fun w'' h => h.c1) (lh_int (x := (j : Int)) (fun w'' h => h.c1) ?_))
  show wpT _ _ _ (.need (decide (0 ≤ (j : Int) ∧ (j : Int) ≤ IntKind.i64.wrap ((j : Int) + (wd : Int)) ∧ IntKind.i64.wrap ((j : Int) + (wd : Int)) ≤ (s.size : Int))) _) _ _
  refine ⟨decide_eq_true ⟨by omega, by rw [hwj]; omega, by rw [hwj]; omega⟩, ?_⟩
  rw [hwj, Int.toNat_natCast, Int.toNat_natCast]
  have rlo : ∀ k, rowS q n c k → w1.heap.size ≤ k := fun k hk => (Row.lt R5 hk).1
  have hes : (s.extract j (j + wd)).size = wd := by simp [ByteArray.size_extract]; omega
  refine eff_i (ap_s R5 (by omega) (by rw [hes]; omega) ?_)
  intro q' c' w8 g8
  have D8 := D5.keep g8.ch (ndrow R5)
  refine bk D8 ?_
  show wpT _ _ _ (.load _ _ _) .pl w8
  refine ld_int D8.c1 ?_
  rw [hwj]
  refine st_blk D8.blk (by simp) rfl fun w9 h9 z9 b9 => ?_
  have D9 : RdS w9 nd s (j + wd) parts := D8.set b9 (by omega)
  have R8 : RowB w8 w1.heap.size q' (n + (s.extract j (j + wd)).size) c' (acc ++ (s.extract j (j + wd)).data.toList) := g8.own
  rw [extract_list, show j + wd - j = wd by omega, hes] at R8
  rw [hes]
  have hdrop : (rest s j).drop wd = rest s (j + wd) := by show List.drop wd (List.drop j _) = _; rw [List.drop_drop]
  rw [hdrop] at hb
  have hal : (acc ++ (rest s j).take wd).length ≤ j + wd := by rw [List.length_append, List.length_take]; omega
  refine again q' (n + wd) c' (j + wd) _ w9 (Row.ch R8 h9 (fun k hk e => ndrow R8 (by rw [← (show k = nd from e)]; exact hk))) D9 ?_ ?_ hal (by omega) hb
  · exact h36.no.trans ((g8.ch.mono fun k hk => by have := rlo k hk; show nd ≤ k; omega).trans (h9.mono fun k (h : k = nd) => by show nd ≤ k; omega))
  · exact (H6.then_ g8.ch (fun k hk hr => by have := rlo k hr; omega)).trans h9
end Go.Proofs.YtkebljkdkaagfaaGreatDoor.V
