/- Plain law: a quoted text is read back. -/
import Derived.Test.YtjellmblammiaaaDoorDec
import Derived.Lib.MapLaws
import Derived.Lib.QuoteLoop
namespace Go.Proofs.YtjellmblammiaaaDoor
open Go
open Go.Lib (decodeL decodeN)
theorem getD_keep (l r : List UInt8) (wd i : Nat) (h : i < wd) (hl : wd ≤ l.length) : (l.take wd ++ r).getD i 0 = l.getD i 0 := by
  have h1 : i < (l.take wd).length := by rw [List.length_take]; omega
  simp only [List.getD_eq_getElem?_getD, List.getElem?_append_left h1, List.getElem?_take, if_pos h]
theorem decode_keep (l r : List UInt8) (h : 2 ≤ (decodeL l).2) : decodeL (l.take (decodeL l).2 ++ r) = decodeL l := by
  rw [Lib.decodeL_N l] at h ⊢
  rcases Lib.decodeN_shape l.length (l.getD 0 0).toNat (l.getD 1 0).toNat (l.getD 2 0).toNat (l.getD 3 0).toNat with ⟨c, e⟩ | ⟨c1, c2, c3, cv, e⟩ | ⟨c1, c2, c3, c4, cv, cs, e⟩ | ⟨c1, c2, c3, c4, c5, cv, cw, e⟩ | e
  · rw [e] at h; simp at h
  · rw [e]
    dsimp only
    have hn : 1 < (l.take 2 ++ r).length := by rw [List.length_append, List.length_take]; omega
    rw [Lib.decodeL_N, getD_keep l r 2 0 (by omega) (by omega), getD_keep l r 2 1 (by omega) (by omega)]
    unfold decodeN
    rw [if_neg (by omega), if_pos ⟨c1, hn, c3⟩, if_pos cv]
  · rw [e]
    dsimp only
    have hn : 2 < (l.take 3 ++ r).length := by rw [List.length_append, List.length_take]; omega
    rw [Lib.decodeL_N, getD_keep l r 3 0 (by omega) (by omega), getD_keep l r 3 1 (by omega) (by omega), getD_keep l r 3 2 (by omega) (by omega)]
    unfold decodeN
    rw [if_neg (by omega), if_neg (by omega), if_pos ⟨c1, ⟨by omega, c3⟩, hn, c4⟩, if_pos (by omega)]
  · rw [e]
    dsimp only
    have hn : 3 < (l.take 4 ++ r).length := by rw [List.length_append, List.length_take]; omega
    rw [Lib.decodeL_N, getD_keep l r 4 0 (by omega) (by omega), getD_keep l r 4 1 (by omega) (by omega), getD_keep l r 4 2 (by omega) (by omega), getD_keep l r 4 3 (by omega) (by omega)]
    unfold decodeN
    rw [if_neg (by omega), if_neg (by omega), if_neg (by omega), if_pos ⟨c1, ⟨by omega, c3⟩, ⟨by omega, c4⟩, hn, c5⟩, if_pos (by omega)]
  · rw [e] at h; simp at h

/-- A hex digit's worth. -/
def hexV (c : UInt8) : Option Nat :=
  if 48 ≤ c.toNat ∧ c.toNat ≤ 57 then some (c.toNat - 48)
  else if 97 ≤ c.toNat ∧ c.toNat ≤ 102 then some (c.toNat - 87)
  else if 65 ≤ c.toNat ∧ c.toNat ≤ 70 then some (c.toNat - 55)
  else none
/-- What a quoted text's body stands for, and what follows the closing quote. -/
def readQ : Nat → List UInt8 → List UInt8 → Option (List UInt8 × List UInt8)
  | 0, _, _ => none
  | _ + 1, _, [] => none
  | k + 1, acc, c :: t =>
    if c = 34 then some (acc, t)
    else if c = 92 then
      match t with
      | [] => none
      | e :: t => if e = 34 ∨ e = 92 then readQ k (acc ++ [e]) t
        else if e = 110 then readQ k (acc ++ [10]) t
        else if e = 116 then readQ k (acc ++ [9]) t
        else if e = 120 then
          match t with
          | a :: b :: t => match hexV a, hexV b with
            | some x, some y => readQ k (acc ++ [UInt8.ofNat (x * 16 + y)]) t
            | _, _ => none
          | _ => none
        else none
    else if 32 ≤ c.toNat ∧ c.toNat ≤ 126 then readQ k (acc ++ [c]) t
    else if c.toNat < 128 ∨ (decodeL (c :: t)).2 < 2 then none
    else readQ k (acc ++ (c :: t).take (decodeL (c :: t)).2) ((c :: t).drop (decodeL (c :: t)).2)

theorem hexV_hexL (n : Nat) (h : n < 16) : hexV (hexL n) = some n := by
  have key : ∀ m : Fin 16, hexV (hexL m.val) = some m.val := by decide
  exact key ⟨n, h⟩
theorem read_hex (u : UInt8) (k : Nat) (acc t : List UInt8) : readQ (k + 1) acc (hexB u ++ t) = readQ k (acc ++ [u]) t := by
  have hu := u.toNat_lt
  have e : UInt8.ofNat (u.toNat / 16 * 16 + u.toNat % 16) = u := by
    rw [show u.toNat / 16 * 16 + u.toNat % 16 = u.toNat by omega]; simp
  simp only [hexB, List.cons_append, List.nil_append, readQ]
  rw [hexV_hexL _ (by omega), hexV_hexL _ (by omega)]
  simp [e]
theorem read_hexs : ∀ (l : List UInt8) (k : Nat) (acc t : List UInt8), readQ (k + l.length) acc (l.flatMap hexB ++ t) = readQ k (acc ++ l) t
  | [], k, acc, t => by simp
  | u :: l, k, acc, t => by
    rw [List.flatMap_cons, List.append_assoc, List.length_cons, show k + (l.length + 1) = (k + l.length) + 1 by omega, read_hex, read_hexs l k]
    simp

theorem readQ_more : ∀ (k : Nat) (acc l : List UInt8) (v : List UInt8 × List UInt8), readQ k acc l = some v → readQ (k + 1) acc l = some v
  | 0, _, _, _, h => by simp [readQ] at h
  | _ + 1, _, [], _, h => by simp [readQ] at h
  | k + 1, acc, c :: t, v, h => by
    have ih := readQ_more k
    obtain ⟨v1, v2⟩ := v
    unfold readQ at h ⊢
    by_cases h1 : c = 34
    · rw [if_pos h1] at h ⊢; exact h
    rw [if_neg h1] at h ⊢
    by_cases h2 : c = 92
    · rw [if_pos h2] at h ⊢
      repeat' split at h
      all_goals first | (cases h; done) | skip
      all_goals (have ih2 := ih; clear ih; simp_all; exact ih2 _ _ _ _ h)
    rw [if_neg h2] at h ⊢
    by_cases h3 : 32 ≤ c.toNat ∧ c.toNat ≤ 126
    · rw [if_pos h3] at h ⊢; exact ih _ _ _ h
    rw [if_neg h3] at h ⊢
    by_cases h4 : c.toNat < 128 ∨ (decodeL (c :: t)).2 < 2
    · rw [if_pos h4] at h; cases h
    · rw [if_neg h4] at h ⊢; exact ih _ _ _ h

theorem readQ_up (k j : Nat) (acc l : List UInt8) (v : List UInt8 × List UInt8) (h : readQ k acc l = some v) : readQ (k + j) acc l = some v := by
  induction j with
  | zero => exact h
  | succ j ih => exact readQ_more _ _ _ _ ih
theorem drop_decode (s : ByteArray) (pos : Nat) : Utf8.decode s pos = decodeL (s.data.toList.drop pos) := by
  rw [Lib.decode_N, Lib.decodeL_N]
  simp [List.getD_eq_getElem?_getD, List.getElem?_drop]

theorem decode_cases (l : List UInt8) (h : l ≠ []) : ((decodeL l).1 = (l.getD 0 0).toNat ∧ (decodeL l).2 = 1 ∧ (l.getD 0 0).toNat < 128) ∨ (128 ≤ (l.getD 0 0).toNat ∧ 2 ≤ (decodeL l).2 ∧ 128 ≤ (decodeL l).1) ∨ ((decodeL l).1 = 65533 ∧ (decodeL l).2 = 1) := by
  rw [Lib.decodeL_N]
  rcases Lib.decodeN_shape l.length (l.getD 0 0).toNat (l.getD 1 0).toNat (l.getD 2 0).toNat (l.getD 3 0).toNat with ⟨c, e⟩ | ⟨c1, c2, c3, cv, e⟩ | ⟨c1, c2, c3, c4, cv, cs, e⟩ | ⟨c1, c2, c3, c4, c5, cv, cw, e⟩ | e <;> rw [e] <;> dsimp only
  · exact .inl ⟨rfl, rfl, c⟩
  · exact .inr (.inl ⟨by omega, by omega, by omega⟩)
  · exact .inr (.inl ⟨by omega, by omega, by omega⟩)
  · exact .inr (.inl ⟨by omega, by omega, by omega⟩)
  · exact .inr (.inr ⟨rfl, rfl⟩)

theorem read_piece (s : ByteArray) (pos : Nat) (hp : pos < s.size) (k : Nat) (acc t : List UInt8) (v : List UInt8 × List UInt8) (h : readQ k (acc ++ (s.data.toList.drop pos).take (Utf8.decode s pos).2) t = some v) :
    readQ (k + (Utf8.decode s pos).2) acc (pieceQ s pos (Utf8.decode s pos).1 (Utf8.decode s pos).2 ++ t) = some v := by
  have hL : s.data.toList.drop pos ≠ [] := fun e => by
    have := congrArg List.length e
    simp at this; omega
  have hg : s.data.toList.getD pos 0 = (s.data.toList.drop pos).getD 0 0 := by simp [List.getD_eq_getElem?_getD, List.getElem?_drop]
  unfold pieceQ
  rw [drop_decode] at h ⊢
  rw [hg]
  generalize s.data.toList.drop pos = L at *
  have hcs := decode_cases L hL
  have henc := Lib.encode_decode L hL
  cases L with
  | nil => exact absurd rfl hL
  | cons c0 L' =>
    rw [show (c0 :: L').getD 0 0 = c0 from rfl] at hcs ⊢
    have hc0 : ∀ n : Nat, n < 256 → c0.toNat = n → c0 = UInt8.ofNat n := fun n hn e => by rw [← e]; simp
    rcases hcs with ⟨e1, e2, e3⟩ | ⟨e1, e2, e3⟩ | ⟨e1, e2⟩
    · rw [e2] at h ⊢
      have ht : (c0 :: L').take 1 = [c0] := rfl
      rw [ht] at h ⊢
      have hen : Lib.encodeRune ((decodeL (c0 :: L')).1 : Int) = [c0] := by rw [henc (by rw [e1]; omega), e2]; rfl
      rw [e1] at hen ⊢
      by_cases q1 : c0.toNat = 34 ∨ c0.toNat = 92
      · rw [if_pos q1]
        have : c0 = 34 ∨ c0 = 92 := q1.imp (fun e => hc0 34 (by omega) e) (fun e => hc0 92 (by omega) e)
        simp only [List.cons_append, List.nil_append]
        unfold readQ
        rw [if_neg (by decide), if_pos rfl]
        simp only [if_pos this]
        exact h
      rw [if_neg q1]
      by_cases q2 : c0.toNat = 10
      · rw [if_pos q2]
        obtain rfl : c0 = 10 := hc0 10 (by omega) q2
        simpa [readQ] using h
      rw [if_neg q2]
      by_cases q3 : c0.toNat = 9
      · rw [if_pos q3]
        obtain rfl : c0 = 9 := hc0 9 (by omega) q3
        simpa [readQ] using h
      rw [if_neg q3]
      by_cases q4 : plainR c0.toNat 1 = true
      · rw [if_pos q4, hen]
        have q5 : 32 ≤ c0.toNat ∧ c0.toNat ≤ 126 := by
          simp only [plainR, Bool.or_eq_true, Bool.and_eq_true, decide_eq_true_eq] at q4
          omega
        have n1 : ¬ c0 = 34 := fun e => q1 (.inl (by rw [e]; rfl))
        have n2 : ¬ c0 = 92 := fun e => q1 (.inr (by rw [e]; rfl))
        simp only [List.cons_append, List.nil_append]
        unfold readQ
        rw [if_neg n1, if_neg n2, if_pos q5]
        exact h
      · rw [if_neg q4]
        have := read_hexs [c0] k acc t
        rw [show [c0].length = 1 from rfl] at this
        rw [this]; exact h
    · have hwl : (decodeL (c0 :: L')).2 ≤ (c0 :: L').length := by
        have := Lib.decodeN_width_le (c0 :: L').length ((c0 :: L').getD 0 0).toNat ((c0 :: L').getD 1 0).toNat ((c0 :: L').getD 2 0).toNat ((c0 :: L').getD 3 0).toNat (by simp)
        rwa [← Lib.decodeL_N] at this
      have hen := henc (by omega)
      have hk := decode_keep (c0 :: L') t e2
      generalize hwd : (decodeL (c0 :: L')).2 = wd at *
      generalize hcv : (decodeL (c0 :: L')).1 = cv at *
      rw [if_neg (by omega), if_neg (by omega), if_neg (by omega)]
      have htl : ((c0 :: L').take wd).length = wd := by rw [List.length_take]; omega
      by_cases q4 : plainR cv wd = true
      · rw [if_pos q4, hen]
        obtain ⟨w', rfl⟩ : ∃ w', wd = w' + 1 := ⟨wd - 1, by omega⟩
        have hd : (c0 :: L').take (w' + 1) = c0 :: L'.take w' := rfl
        rw [hd] at h hk htl ⊢
        rw [List.cons_append] at hk ⊢
        have n1 : ¬ c0 = 34 := fun e => by rw [e] at e1; revert e1; decide
        have n2 : ¬ c0 = 92 := fun e => by rw [e] at e1; revert e1; decide
        rw [show k + (w' + 1) = (k + w') + 1 by omega]
        unfold readQ
        rw [if_neg n1, if_neg n2, if_neg (by omega), hk, hwd]
        rw [if_neg (by omega)]
        have t1 : (c0 :: (L'.take w' ++ t)).take (w' + 1) = c0 :: L'.take w' := by
          rw [List.take_succ_cons, List.take_append_of_le_length (by simp only [List.length_cons] at htl; omega), List.take_take, Nat.min_self]
        have t2 : (c0 :: (L'.take w' ++ t)).drop (w' + 1) = t := by
          rw [List.drop_succ_cons, List.drop_left' (by simp only [List.length_cons] at htl; omega)]
        rw [t1, t2]
        exact readQ_up _ _ _ _ _ h
      · rw [if_neg q4]
        have := read_hexs ((c0 :: L').take wd) k acc t
        rw [htl] at this
        rw [this]; exact h
    · rw [e2] at h
      rw [e1, e2]
      rw [if_neg (by omega), if_neg (by omega), if_neg (by omega), if_neg (by decide)]
      have := read_hexs ((c0 :: L').take 1) k acc t
      rw [show ((c0 :: L').take 1).length = 1 from rfl] at this
      rw [this]; exact h

theorem read_quote (s : ByteArray) (r : List UInt8) : ∀ (n pos : Nat) (acc : List UInt8), s.size - pos = n → pos ≤ s.size → readQ (n + 1) acc (quoteF s s.size pos ++ 34 :: r) = some (acc ++ s.data.toList.drop pos, r) := by
  intro n
  induction n using Nat.strongRecOn with
  | _ n ih =>
    intro pos acc hn hpos
    by_cases hp : pos < s.size
    · have h1 := Lib.decode_width_pos s pos hp
      have h2 := (decode_in s pos hp).2
      rw [quoteF_step s pos hp, List.append_assoc]
      have hi := ih (s.size - (pos + (Utf8.decode s pos).2)) (by omega) (pos + (Utf8.decode s pos).2) (acc ++ (s.data.toList.drop pos).take (Utf8.decode s pos).2) rfl h2
      have := read_piece s pos hp _ acc _ _ hi
      rw [show n + 1 = s.size - (pos + (Utf8.decode s pos).2) + 1 + (Utf8.decode s pos).2 by omega, this]
      congr 2
      rw [List.append_assoc]
      congr 1
      rw [← List.drop_drop]
      exact List.take_append_drop _ _
    · have hf : quoteF s s.size pos = [] := by
        cases hz : s.size with
        | zero => rfl
        | succ j => rw [quoteF, if_neg hp]
      rw [hf, List.nil_append]
      have hd : s.data.toList.drop pos = [] := List.drop_of_length_le (by simp; omega)
      rw [hd, List.append_nil]
      simp [readQ]
theorem quote_inj {s t : ByteArray} {r r' : List UInt8} (h : quoteB s ++ r = quoteB t ++ r') : s = t ∧ r = r' := by
  simp only [quoteB, List.cons_append, List.append_assoc, List.nil_append, List.cons.injEq, true_and] at h
  have h1 := readQ_up _ t.size _ _ _ (read_quote s r s.size 0 [] (by omega) (by omega))
  have h2 := readQ_up _ s.size _ _ _ (read_quote t r' t.size 0 [] (by omega) (by omega))
  rw [h, show s.size + 1 + t.size = t.size + 1 + s.size by omega, h2] at h1
  simp only [Option.some.injEq, Prod.mk.injEq, List.nil_append, List.drop_zero] at h1
  refine ⟨?_, h1.2.symm⟩
  cases s; cases t
  simpa using h1.1.symm
end Go.Proofs.YtjellmblammiaaaDoor
