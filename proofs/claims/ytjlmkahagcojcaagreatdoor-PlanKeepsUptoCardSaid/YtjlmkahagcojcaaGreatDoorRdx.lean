/- What reads a value's text, plainly: numerals and quoted texts told again; the reader as a model on lists of bytes, its faults and all. -/
import Derived.Test.YtjlmkahagcojcaaGreatDoorPrt
import Derived.Lib.MapLaws
import Derived.Lib.QuoteLoop
namespace Go.Proofs.YtjlmkahagcojcaaGreatDoor.V
open Go
def dval (l : List UInt8) : Nat := l.foldl (fun a c => a * 10 + (c.toNat - 48)) 0
theorem dval_snoc (l : List UInt8) (c : UInt8) : dval (l ++ [c]) = dval l * 10 + (c.toNat - 48) := by simp [dval]
theorem dval_dec : ∀ (k u : Nat), u < k → dval (Lib.decDigits u) = u := by
  intro k
  induction k with
  | zero => intro u h; omega
  | succ k ih =>
    intro u hk
    rw [Lib.decDigits]
    by_cases h : u < 10
    · rw [dif_pos h]
      have : (UInt8.ofNat (48 + u)).toNat = 48 + u := by rw [UInt8.toNat_ofNat']; omega
      simp [dval]
      omega
    · rw [dif_neg h, dval_snoc, ih (u / 10) (by omega)]
      have : (UInt8.ofNat (48 + u % 10)).toNat = 48 + u % 10 := by rw [UInt8.toNat_ofNat']; omega
      rw [this]; omega
theorem dec_digit : ∀ (k u : Nat), u < k → ∀ c ∈ Lib.decDigits u, 48 ≤ c.toNat ∧ c.toNat ≤ 57 := by
  intro k
  induction k with
  | zero => intro u h; omega
  | succ k ih =>
    intro u hk c hc
    rw [Lib.decDigits] at hc
    by_cases h : u < 10
    · rw [dif_pos h] at hc
      have : (UInt8.ofNat (48 + u)).toNat = 48 + u := by rw [UInt8.toNat_ofNat']; omega
      simp only [List.mem_singleton] at hc
      subst hc
      omega
    · rw [dif_neg h] at hc
      rcases List.mem_append.1 hc with hc | hc
      · exact ih (u / 10) (by omega) c hc
      · have : (UInt8.ofNat (48 + u % 10)).toNat = 48 + u % 10 := by rw [UInt8.toNat_ofNat']; omega
        simp only [List.mem_singleton] at hc
        subst hc
        omega
theorem dec_inj {u v : Nat} (h : Lib.decDigits u = Lib.decDigits v) : u = v := by
  rw [← dval_dec _ u (Nat.lt_succ_self _), ← dval_dec _ v (Nat.lt_succ_self _), h]
end Go.Proofs.YtjlmkahagcojcaaGreatDoor.V
namespace Go.Proofs.YtjlmkahagcojcaaGreatDoor.V
open Go
open Go.Lib (decodeL decodeN)
theorem getD_keep (l r : List UInt8) (wd i : Nat) (h : i < wd) (hl : wd ≤ l.length) : (l.take wd ++ r).getD i 0 = l.getD i 0 := by
  have h1 : i < (l.take wd).length := by rw [List.length_take]; omega
  simp only [List.getD_eq_getElem?_getD, List.getElem?_append_left h1, List.getElem?_take, if_pos h]
theorem decode_keep (l r : List UInt8) (h : 2 ≤ (decodeL l).2) : decodeL (l.take (decodeL l).2 ++ r) = decodeL l := by
  rw [Lib.decodeL_N l] at h ⊢
  rcases Lib.decodeN_shape l.length (l.getD 0 0).toNat (l.getD 1 0).toNat (l.getD 2 0).toNat (l.getD 3 0).toNat with ⟨c, e⟩ | ⟨c1, c2, c3, cv, e⟩ | ⟨c1, c2, c3, c4, cv, cs, e⟩ | ⟨c1, c2, c3, c4, c5, cv, cw, e⟩ | e
  · rw [e] at h; simp at h
  · rw [e]
    dsimp only
    have hn : 1 < (l.take 2 ++ r).length := by rw [List.length_append, List.length_take]; omega
    rw [Lib.decodeL_N, getD_keep l r 2 0 (by omega) (by omega), getD_keep l r 2 1 (by omega) (by omega)]
    unfold decodeN
    rw [if_neg (by omega), if_pos ⟨c1, hn, c3⟩, if_pos cv]
  · rw [e]
    dsimp only
    have hn : 2 < (l.take 3 ++ r).length := by rw [List.length_append, List.length_take]; omega
    rw [Lib.decodeL_N, getD_keep l r 3 0 (by omega) (by omega), getD_keep l r 3 1 (by omega) (by omega), getD_keep l r 3 2 (by omega) (by omega)]
    unfold decodeN
    rw [if_neg (by omega), if_neg (by omega), if_pos ⟨c1, ⟨by omega, c3⟩, hn, c4⟩, if_pos (by omega)]
  · rw [e]
    dsimp only
    have hn : 3 < (l.take 4 ++ r).length := by rw [List.length_append, List.length_take]; omega
    rw [Lib.decodeL_N, getD_keep l r 4 0 (by omega) (by omega), getD_keep l r 4 1 (by omega) (by omega), getD_keep l r 4 2 (by omega) (by omega), getD_keep l r 4 3 (by omega) (by omega)]
    unfold decodeN
    rw [if_neg (by omega), if_neg (by omega), if_neg (by omega), if_pos ⟨c1, ⟨by omega, c3⟩, ⟨by omega, c4⟩, hn, c5⟩, if_pos (by omega)]
  · rw [e] at h; simp at h

/-- A hex digit's worth. -/
def hexV (c : UInt8) : Option Nat :=
  if 48 ≤ c.toNat ∧ c.toNat ≤ 57 then some (c.toNat - 48)
  else if 97 ≤ c.toNat ∧ c.toNat ≤ 102 then some (c.toNat - 87)
  else if 65 ≤ c.toNat ∧ c.toNat ≤ 70 then some (c.toNat - 55)
  else none
/-- What a quoted text's body stands for, and what follows the closing quote. -/
def readQ : Nat → List UInt8 → List UInt8 → Option (List UInt8 × List UInt8)
  | 0, _, _ => none
  | _ + 1, _, [] => none
  | k + 1, acc, c :: t =>
    if c = 34 then some (acc, t)
    else if c = 92 then
      match t with
      | [] => none
      | e :: t => if e = 34 ∨ e = 92 then readQ k (acc ++ [e]) t
        else if e = 110 then readQ k (acc ++ [10]) t
        else if e = 116 then readQ k (acc ++ [9]) t
        else if e = 120 then
          match t with
          | a :: b :: t => match hexV a, hexV b with
            | some x, some y => readQ k (acc ++ [UInt8.ofNat (x * 16 + y)]) t
            | _, _ => none
          | _ => none
        else none
    else if 32 ≤ c.toNat ∧ c.toNat ≤ 126 then readQ k (acc ++ [c]) t
    else if c.toNat < 128 ∨ (decodeL (c :: t)).2 < 2 then none
    else readQ k (acc ++ (c :: t).take (decodeL (c :: t)).2) ((c :: t).drop (decodeL (c :: t)).2)

theorem hexV_hexL (n : Nat) (h : n < 16) : hexV (hexL n) = some n := by
  have key : ∀ m : Fin 16, hexV (hexL m.val) = some m.val := by decide
  exact key ⟨n, h⟩
theorem read_hex (u : UInt8) (k : Nat) (acc t : List UInt8) : readQ (k + 1) acc (hexB u ++ t) = readQ k (acc ++ [u]) t := by
  have hu := u.toNat_lt
  have e : UInt8.ofNat (u.toNat / 16 * 16 + u.toNat % 16) = u := by
    rw [show u.toNat / 16 * 16 + u.toNat % 16 = u.toNat by omega]; simp
  simp only [hexB, List.cons_append, List.nil_append, readQ]
  rw [hexV_hexL _ (by omega), hexV_hexL _ (by omega)]
  simp [e]
theorem read_hexs : ∀ (l : List UInt8) (k : Nat) (acc t : List UInt8), readQ (k + l.length) acc (l.flatMap hexB ++ t) = readQ k (acc ++ l) t
  | [], k, acc, t => by simp
  | u :: l, k, acc, t => by
    rw [List.flatMap_cons, List.append_assoc, List.length_cons, show k + (l.length + 1) = (k + l.length) + 1 by omega, read_hex, read_hexs l k]
    simp

theorem readQ_more : ∀ (k : Nat) (acc l : List UInt8) (v : List UInt8 × List UInt8), readQ k acc l = some v → readQ (k + 1) acc l = some v
  | 0, _, _, _, h => by simp [readQ] at h
  | _ + 1, _, [], _, h => by simp [readQ] at h
  | k + 1, acc, c :: t, v, h => by
    have ih := readQ_more k
    obtain ⟨v1, v2⟩ := v
    unfold readQ at h ⊢
    by_cases h1 : c = 34
    · rw [if_pos h1] at h ⊢; exact h
    rw [if_neg h1] at h ⊢
    by_cases h2 : c = 92
    · rw [if_pos h2] at h ⊢
      repeat' split at h
      all_goals first | (cases h; done) | skip
      all_goals (have ih2 := ih; clear ih; simp_all; exact ih2 _ _ _ _ h)
    rw [if_neg h2] at h ⊢
    by_cases h3 : 32 ≤ c.toNat ∧ c.toNat ≤ 126
    · rw [if_pos h3] at h ⊢; exact ih _ _ _ h
    rw [if_neg h3] at h ⊢
    by_cases h4 : c.toNat < 128 ∨ (decodeL (c :: t)).2 < 2
    · rw [if_pos h4] at h; cases h
    · rw [if_neg h4] at h ⊢; exact ih _ _ _ h

theorem readQ_up (k j : Nat) (acc l : List UInt8) (v : List UInt8 × List UInt8) (h : readQ k acc l = some v) : readQ (k + j) acc l = some v := by
  induction j with
  | zero => exact h
  | succ j ih => exact readQ_more _ _ _ _ ih
theorem drop_decode (s : ByteArray) (pos : Nat) : Utf8.decode s pos = decodeL (s.data.toList.drop pos) := by
  rw [Lib.decode_N, Lib.decodeL_N]
  simp [List.getD_eq_getElem?_getD, List.getElem?_drop]

theorem decode_cases (l : List UInt8) (h : l ≠ []) : ((decodeL l).1 = (l.getD 0 0).toNat ∧ (decodeL l).2 = 1 ∧ (l.getD 0 0).toNat < 128) ∨ (128 ≤ (l.getD 0 0).toNat ∧ 2 ≤ (decodeL l).2 ∧ 128 ≤ (decodeL l).1) ∨ ((decodeL l).1 = 65533 ∧ (decodeL l).2 = 1) := by
  rw [Lib.decodeL_N]
  rcases Lib.decodeN_shape l.length (l.getD 0 0).toNat (l.getD 1 0).toNat (l.getD 2 0).toNat (l.getD 3 0).toNat with ⟨c, e⟩ | ⟨c1, c2, c3, cv, e⟩ | ⟨c1, c2, c3, c4, cv, cs, e⟩ | ⟨c1, c2, c3, c4, c5, cv, cw, e⟩ | e <;> rw [e] <;> dsimp only
  · exact .inl ⟨rfl, rfl, c⟩
  · exact .inr (.inl ⟨by omega, by omega, by omega⟩)
  · exact .inr (.inl ⟨by omega, by omega, by omega⟩)
  · exact .inr (.inl ⟨by omega, by omega, by omega⟩)
  · exact .inr (.inr ⟨rfl, rfl⟩)

theorem read_piece (s : ByteArray) (pos : Nat) (hp : pos < s.size) (k : Nat) (acc t : List UInt8) (v : List UInt8 × List UInt8) (h : readQ k (acc ++ (s.data.toList.drop pos).take (Utf8.decode s pos).2) t = some v) :
    readQ (k + (Utf8.decode s pos).2) acc (pieceQ s pos (Utf8.decode s pos).1 (Utf8.decode s pos).2 ++ t) = some v := by
  have hL : s.data.toList.drop pos ≠ [] := fun e => by
    have := congrArg List.length e
    simp at this; omega
  have hg : s.data.toList.getD pos 0 = (s.data.toList.drop pos).getD 0 0 := by simp [List.getD_eq_getElem?_getD, List.getElem?_drop]
  unfold pieceQ
  rw [drop_decode] at h ⊢
  rw [hg]
  generalize s.data.toList.drop pos = L at *
  have hcs := decode_cases L hL
  have henc := Lib.encode_decode L hL
  cases L with
  | nil => exact absurd rfl hL
  | cons c0 L' =>
    rw [show (c0 :: L').getD 0 0 = c0 from rfl] at hcs ⊢
    have hc0 : ∀ n : Nat, n < 256 → c0.toNat = n → c0 = UInt8.ofNat n := fun n hn e => by rw [← e]; simp
    rcases hcs with ⟨e1, e2, e3⟩ | ⟨e1, e2, e3⟩ | ⟨e1, e2⟩
    · rw [e2] at h ⊢
      have ht : (c0 :: L').take 1 = [c0] := rfl
      rw [ht] at h ⊢
      have hen : Lib.encodeRune ((decodeL (c0 :: L')).1 : Int) = [c0] := by rw [henc (by rw [e1]; omega), e2]; rfl
      rw [e1] at hen ⊢
      by_cases q1 : c0.toNat = 34 ∨ c0.toNat = 92
      · rw [if_pos q1]
        have : c0 = 34 ∨ c0 = 92 := q1.imp (fun e => hc0 34 (by omega) e) (fun e => hc0 92 (by omega) e)
        simp only [List.cons_append, List.nil_append]
        unfold readQ
        rw [if_neg (by decide), if_pos rfl]
        simp only [if_pos this]
        exact h
      rw [if_neg q1]
      by_cases q2 : c0.toNat = 10
      · rw [if_pos q2]
        obtain rfl : c0 = 10 := hc0 10 (by omega) q2
        simpa [readQ] using h
      rw [if_neg q2]
      by_cases q3 : c0.toNat = 9
      · rw [if_pos q3]
        obtain rfl : c0 = 9 := hc0 9 (by omega) q3
        simpa [readQ] using h
      rw [if_neg q3]
      by_cases q4 : plainR c0.toNat 1 = true
      · rw [if_pos q4, hen]
        have q5 : 32 ≤ c0.toNat ∧ c0.toNat ≤ 126 := by
          simp only [plainR, Bool.or_eq_true, Bool.and_eq_true, decide_eq_true_eq] at q4
          omega
        have n1 : ¬ c0 = 34 := fun e => q1 (.inl (by rw [e]; rfl))
        have n2 : ¬ c0 = 92 := fun e => q1 (.inr (by rw [e]; rfl))
        simp only [List.cons_append, List.nil_append]
        unfold readQ
        rw [if_neg n1, if_neg n2, if_pos q5]
        exact h
      · rw [if_neg q4]
        have := read_hexs [c0] k acc t
        rw [show [c0].length = 1 from rfl] at this
        rw [this]; exact h
    · have hwl : (decodeL (c0 :: L')).2 ≤ (c0 :: L').length := by
        have := Lib.decodeN_width_le (c0 :: L').length ((c0 :: L').getD 0 0).toNat ((c0 :: L').getD 1 0).toNat ((c0 :: L').getD 2 0).toNat ((c0 :: L').getD 3 0).toNat (by simp)
        rwa [← Lib.decodeL_N] at this
      have hen := henc (by omega)
      have hk := decode_keep (c0 :: L') t e2
      generalize hwd : (decodeL (c0 :: L')).2 = wd at *
      generalize hcv : (decodeL (c0 :: L')).1 = cv at *
      rw [if_neg (by omega), if_neg (by omega), if_neg (by omega)]
      have htl : ((c0 :: L').take wd).length = wd := by rw [List.length_take]; omega
      by_cases q4 : plainR cv wd = true
      · rw [if_pos q4, hen]
        obtain ⟨w', rfl⟩ : ∃ w', wd = w' + 1 := ⟨wd - 1, by omega⟩
        have hd : (c0 :: L').take (w' + 1) = c0 :: L'.take w' := rfl
        rw [hd] at h hk htl ⊢
        rw [List.cons_append] at hk ⊢
        have n1 : ¬ c0 = 34 := fun e => by rw [e] at e1; revert e1; decide
        have n2 : ¬ c0 = 92 := fun e => by rw [e] at e1; revert e1; decide
        rw [show k + (w' + 1) = (k + w') + 1 by omega]
        unfold readQ
        rw [if_neg n1, if_neg n2, if_neg (by omega), hk, hwd]
        rw [if_neg (by omega)]
        have t1 : (c0 :: (L'.take w' ++ t)).take (w' + 1) = c0 :: L'.take w' := by
          rw [List.take_succ_cons, List.take_append_of_le_length (by simp only [List.length_cons] at htl; omega), List.take_take, Nat.min_self]
        have t2 : (c0 :: (L'.take w' ++ t)).drop (w' + 1) = t := by
          rw [List.drop_succ_cons, List.drop_left' (by simp only [List.length_cons] at htl; omega)]
        rw [t1, t2]
        exact readQ_up _ _ _ _ _ h
      · rw [if_neg q4]
        have := read_hexs ((c0 :: L').take wd) k acc t
        rw [htl] at this
        rw [this]; exact h
    · rw [e2] at h
      rw [e1, e2]
      rw [if_neg (by omega), if_neg (by omega), if_neg (by omega), if_neg (by decide)]
      have := read_hexs ((c0 :: L').take 1) k acc t
      rw [show ((c0 :: L').take 1).length = 1 from rfl] at this
      rw [this]; exact h

theorem read_quote (s : ByteArray) (r : List UInt8) : ∀ (n pos : Nat) (acc : List UInt8), s.size - pos = n → pos ≤ s.size → readQ (n + 1) acc (quoteF s s.size pos ++ 34 :: r) = some (acc ++ s.data.toList.drop pos, r) := by
  intro n
  induction n using Nat.strongRecOn with
  | _ n ih =>
    intro pos acc hn hpos
    by_cases hp : pos < s.size
    · have h1 := Lib.decode_width_pos s pos hp
      have h2 := (decode_in s pos hp).2
      rw [quoteF_step s pos hp, List.append_assoc]
      have hi := ih (s.size - (pos + (Utf8.decode s pos).2)) (by omega) (pos + (Utf8.decode s pos).2) (acc ++ (s.data.toList.drop pos).take (Utf8.decode s pos).2) rfl h2
      have := read_piece s pos hp _ acc _ _ hi
      rw [show n + 1 = s.size - (pos + (Utf8.decode s pos).2) + 1 + (Utf8.decode s pos).2 by omega, this]
      congr 2
      rw [List.append_assoc]
      congr 1
      rw [← List.drop_drop]
      exact List.take_append_drop _ _
    · have hf : quoteF s s.size pos = [] := by
        cases hz : s.size with
        | zero => rfl
        | succ j => rw [quoteF, if_neg hp]
      rw [hf, List.nil_append]
      have hd : s.data.toList.drop pos = [] := List.drop_of_length_le (by simp; omega)
      rw [hd, List.append_nil]
      simp [readQ]
theorem quote_inj {s t : ByteArray} {r r' : List UInt8} (h : quoteB s ++ r = quoteB t ++ r') : s = t ∧ r = r' := by
  simp only [quoteB, List.cons_append, List.append_assoc, List.nil_append, List.cons.injEq, true_and] at h
  have h1 := readQ_up _ t.size _ _ _ (read_quote s r s.size 0 [] (by omega) (by omega))
  have h2 := readQ_up _ s.size _ _ _ (read_quote t r' t.size 0 [] (by omega) (by omega))
  rw [h, show s.size + 1 + t.size = t.size + 1 + s.size by omega, h2] at h1
  simp only [Option.some.injEq, Prod.mk.injEq, List.nil_append, List.drop_zero] at h1
  refine ⟨?_, h1.2.symm⟩
  cases s; cases t
  simpa using h1.1.symm
end Go.Proofs.YtjlmkahagcojcaaGreatDoor.V
namespace Go.Proofs.YtjlmkahagcojcaaGreatDoor.V
open Go Tr
set_option maxRecDepth 100000
def pk : List UInt8 → Nat
  | [] => 0
  | c :: _ => c.toNat
def isBl (c : UInt8) : Bool := decide (c.toNat = 32) || decide (c.toNat = 9)
def isDig (c : UInt8) : Bool := decide (48 ≤ c.toNat) && decide (c.toNat ≤ 57)
def blanksM (l : List UInt8) : List UInt8 := l.dropWhile isBl
def numM (neg : Bool) (ds : List UInt8) : Option Int :=
  if neg = true then (if dval ds ≤ 9223372036854775808 then some (-(dval ds : Int)) else none) else (if dval ds < 9223372036854775808 then some (dval ds : Int) else none)
/-- A numeral without its sign. -/
def rdigM (neg : Bool) (l : List UInt8) : Option (Int × List UInt8) :=
  if pk l = 48 then (if neg = true then none else some (0, l.tail))
  else if l.takeWhile isDig = [] then none
  else match numM neg (l.takeWhile isDig) with
    | none => none
    | some v => some (v, l.dropWhile isDig)
def rintM (l : List UInt8) : Option (Int × List UInt8) := if pk l = 45 then rdigM true l.tail else rdigM false l
def rtextM (l : List UInt8) : Option (ByteArray × List UInt8) :=
  match readQ (l.length + 1) [] l with
  | none => none
  | some (b, r) => if b.length > 24 then none else some (⟨b.toArray⟩, r)
def ritems (f : List UInt8 → Int → Option (VT × List UInt8 × Int)) : Nat → List VT → List UInt8 → Int → Option (List VT × List UInt8 × Int)
  | 0, _, _, _ => none
  | m + 1, acc, l, n => match f l n with
    | none => none
    | some (x, l1, n1) => if pk (blanksM l1) = 93 then some (acc ++ [x], (blanksM l1).tail, n1)
      else if pk (blanksM l1) = 44 then ritems f m (acc ++ [x]) (blanksM (blanksM l1).tail) n1
      else none
def rlistM (f : List UInt8 → Int → Option (VT × List UInt8 × Int)) (depth : Int) (l : List UInt8) (n : Int) : Option (VT × List UInt8 × Int) :=
  if depth ≥ 3 then none
  else if pk (blanksM l.tail) = 93 then some (.mk 3 0 (bytesL []) [], (blanksM l.tail).tail, n)
  else match ritems f 6 [] (blanksM l.tail) n with
    | none => none
    | some (xs, l2, n2) => some (.mk 3 0 (bytesL []) xs, l2, n2)
def begs (c : Nat) : Bool := decide (c = 110 ∨ c = 45 ∨ c = 34 ∨ c = 91 ∨ (48 ≤ c ∧ c ≤ 57))
/-- What the reader reads. -/
def rdV : Nat → Int → List UInt8 → Int → Option (VT × List UInt8 × Int)
  | 0, _, _, _ => none
  | k + 1, depth, l, n =>
    if begs (pk l) = false then none
    else if n + 1 > 12 then none
    else if pk l = 110 then (if l.take 4 = [110, 111, 110, 101] then some (noneV, l.drop 4, n + 1) else none)
    else if pk l = 34 then match rtextM l.tail with
      | none => none
      | some (s, r) => some (.mk 2 0 s [], r, n + 1)
    else if pk l = 91 then rlistM (rdV k (depth + 1)) depth l (n + 1)
    else match rintM l with
      | none => none
      | some (v, r) => some (.mk 1 v (bytesL []) [], r, n + 1)
theorem rdV_succ (k : Nat) (depth : Int) (l : List UInt8) (n : Int) : rdV (k + 1) depth l n = (if begs (pk l) = false then none
    else if n + 1 > 12 then none
    else if pk l = 110 then (if l.take 4 = [110, 111, 110, 101] then some (noneV, l.drop 4, n + 1) else none)
    else if pk l = 34 then match rtextM l.tail with
      | none => none
      | some (s, r) => some (.mk 2 0 s [], r, n + 1)
    else if pk l = 91 then rlistM (rdV k (depth + 1)) depth l (n + 1)
    else match rintM l with
      | none => none
      | some (v, r) => some (.mk 1 v (bytesL []) [], r, n + 1)) := rfl
end Go.Proofs.YtjlmkahagcojcaaGreatDoor.V
namespace Go.Proofs.YtjlmkahagcojcaaGreatDoor.V
open Go Tr
open Go.Lib (decodeL)
set_option maxRecDepth 100000
/-- A hex digit's worth, of what peek tells. -/
def hexP (c : Nat) : Option Nat :=
  if 48 ≤ c ∧ c ≤ 57 then some (c - 48)
  else if 97 ≤ c ∧ c ≤ 102 then some (c - 87)
  else if 65 ≤ c ∧ c ≤ 70 then some (c - 55)
  else none
theorem hexP_lt {c x : Nat} (h : hexP c = some x) : x < 16 := by
  unfold hexP at h
  split at h
  · cases h; omega
  split at h
  · cases h; omega
  split at h
  · cases h; omega
  · cases h
/-- A fault: its number, how many bytes stand from its place on. -/
abbrev Flt := Int × Nat
def wantX : List UInt8 → List UInt8 → Except Flt (List UInt8)
  | [], l => .ok l
  | c :: w, l => if pk l = c.toNat then wantX w l.tail else .error (28, l.length)
def escX (l : List UInt8) : Except Flt (UInt8 × List UInt8) :=
  if pk l = 34 then .ok (34, l.tail) else if pk l = 92 then .ok (92, l.tail) else if pk l = 110 then .ok (10, l.tail) else if pk l = 116 then .ok (9, l.tail)
  else if pk l = 120 then match hexP (pk l.tail) with
    | none => .error (28, l.tail.length)
    | some x => match hexP (pk l.tail.tail) with
      | none => .error (28, l.tail.tail.length)
      | some y => .ok (UInt8.ofNat (x * 16 + y), l.tail.tail.tail)
  else .error (28, l.length)
def readX : Nat → List UInt8 → List UInt8 → Except Flt (List UInt8 × List UInt8)
  | 0, _, l => .error (28, l.length)
  | k + 1, acc, l =>
    if pk l = 34 then .ok (acc, l.tail)
    else if pk l = 92 then match escX l.tail with
      | .error e => .error e
      | .ok (b, r) => readX k (acc ++ [b]) r
    else if 32 ≤ pk l ∧ pk l ≤ 126 then readX k (acc ++ [UInt8.ofNat (pk l)]) l.tail
    else if pk l < 128 ∨ (decodeL l).2 < 2 then .error (28, l.length)
    else readX k (acc ++ l.take (decodeL l).2) (l.drop (decodeL l).2)
/-- Of a text from its first quote on. -/
def rtextX (l : List UInt8) : Except Flt (ByteArray × List UInt8) :=
  match readX (l.tail.length + 1) [] l.tail with
  | .error e => .error e
  | .ok (b, r) => if b.length > 24 then .error (21, l.length) else .ok (⟨b.toArray⟩, r)
def rdigX (from_ : Nat) (neg : Bool) (l : List UInt8) : Except Flt (Int × List UInt8) :=
  if pk l = 48 then (if neg = true then .error (28, l.length) else .ok (0, l.tail))
  else if l.takeWhile isDig = [] then .error (28, l.length)
  else match numM neg (l.takeWhile isDig) with
    | none => .error (29, from_)
    | some v => .ok (v, l.dropWhile isDig)
def rintX (l : List UInt8) : Except Flt (Int × List UInt8) := if pk l = 45 then rdigX l.length true l.tail else rdigX l.length false l
def ritemsX (f : List UInt8 → Int → Except Flt (VT × List UInt8 × Int)) : Nat → List VT → List UInt8 → Int → Except Flt (List VT × List UInt8 × Int)
  | 0, _, l, _ => .error (22, l.length)
  | m + 1, acc, l, n => match f l n with
    | .error e => .error e
    | .ok (x, l1, n1) => if pk (blanksM l1) = 93 then .ok (acc ++ [x], (blanksM l1).tail, n1)
      else if pk (blanksM l1) = 44 then (if m = 0 then .error (22, (blanksM l1).length) else ritemsX f m (acc ++ [x]) (blanksM (blanksM l1).tail) n1)
      else .error (28, (blanksM l1).length)
def rlistX (f : List UInt8 → Int → Except Flt (VT × List UInt8 × Int)) (depth : Int) (l : List UInt8) (n : Int) : Except Flt (VT × List UInt8 × Int) :=
  if depth ≥ 3 then .error (23, l.length)
  else if pk (blanksM l.tail) = 93 then .ok (.mk 3 0 (bytesL []) [], (blanksM l.tail).tail, n)
  else match ritemsX f 6 [] (blanksM l.tail) n with
    | .error e => .error e
    | .ok (xs, l2, n2) => .ok (.mk 3 0 (bytesL []) xs, l2, n2)
/-- What the reader reads, or its fault. -/
def rdX : Nat → Int → List UInt8 → Int → Except Flt (VT × List UInt8 × Int)
  | 0, _, l, _ => .error (28, l.length)
  | k + 1, depth, l, n =>
    if begs (pk l) = false then .error (28, l.length)
    else if n + 1 > 12 then .error (22, l.length)
    else if pk l = 110 then match wantX [110, 111, 110, 101] l with
      | .error e => .error e
      | .ok r => .ok (noneV, r, n + 1)
    else if pk l = 34 then match rtextX l with
      | .error e => .error e
      | .ok (s, r) => .ok (.mk 2 0 s [], r, n + 1)
    else if pk l = 91 then rlistX (rdX k (depth + 1)) depth l (n + 1)
    else match rintX l with
      | .error e => .error e
      | .ok (v, r) => .ok (.mk 1 v (bytesL []) [], r, n + 1)
theorem rdX_succ (k : Nat) (depth : Int) (l : List UInt8) (n : Int) : rdX (k + 1) depth l n = (if begs (pk l) = false then .error (28, l.length)
    else if n + 1 > 12 then .error (22, l.length)
    else if pk l = 110 then match wantX [110, 111, 110, 101] l with
      | .error e => .error e
      | .ok r => .ok (noneV, r, n + 1)
    else if pk l = 34 then match rtextX l with
      | .error e => .error e
      | .ok (s, r) => .ok (.mk 2 0 s [], r, n + 1)
    else if pk l = 91 then rlistX (rdX k (depth + 1)) depth l (n + 1)
    else match rintX l with
      | .error e => .error e
      | .ok (v, r) => .ok (.mk 1 v (bytesL []) [], r, n + 1)) := rfl
/-- A text that is one value, blanks around it. -/
def parseX (l : List UInt8) : Except Flt (VT × Int) :=
  match rdX 4 0 (blanksM l) 0 with
  | .error e => .error e
  | .ok (x, l1, n) => if blanksM l1 = [] then .ok (x, n) else .error (28, (blanksM l1).length)
theorem blanksM_len (l : List UInt8) : (blanksM l).length ≤ l.length := (List.dropWhile_suffix isBl).length_le
theorem readX_back (k : Nat) (acc l : List UInt8) (h : pk l = 92) : readX (k + 1) acc l = (match escX l.tail with
    | .error e => .error e
    | .ok (b, r) => readX k (acc ++ [b]) r) := by
  conv => lhs; unfold readX
  rw [if_neg (by omega), if_pos h]
theorem readX_end (k : Nat) (acc l : List UInt8) (h : pk l = 34) : readX (k + 1) acc l = .ok (acc, l.tail) := by
  conv => lhs; unfold readX
  rw [if_pos h]
theorem readX_plain (k : Nat) (acc l : List UInt8) (h1 : pk l ≠ 34) (h2 : pk l ≠ 92) (h3 : 32 ≤ pk l ∧ pk l ≤ 126) : readX (k + 1) acc l = readX k (acc ++ [UInt8.ofNat (pk l)]) l.tail := by
  conv => lhs; unfold readX
  rw [if_neg h1, if_neg h2, if_pos h3]
theorem readX_rune (k : Nat) (acc l : List UInt8) (h1 : pk l ≠ 34) (h2 : pk l ≠ 92) (h3 : ¬ (32 ≤ pk l ∧ pk l ≤ 126)) : readX (k + 1) acc l = (if pk l < 128 ∨ (decodeL l).2 < 2 then .error (28, l.length) else readX k (acc ++ l.take (decodeL l).2) (l.drop (decodeL l).2)) := by
  conv => lhs; unfold readX
  rw [if_neg h1, if_neg h2, if_neg h3]
end Go.Proofs.YtjlmkahagcojcaaGreatDoor.V
