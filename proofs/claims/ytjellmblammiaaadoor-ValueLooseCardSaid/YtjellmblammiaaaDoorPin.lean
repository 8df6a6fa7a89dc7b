/- Plain law: what is printed tells its value. -/
import Derived.Test.YtjellmblammiaaaDoorRdq
namespace Go.Proofs.YtjellmblammiaaaDoor
open Go
set_option maxRecDepth 100000
/-- What may follow a value within a list, or at a text's end. -/
def Sep (r : List UInt8) : Prop := r = [] ∨ ∃ c t, r = c :: t ∧ (c = 44 ∨ c = 93)
theorem sep_nil : Sep [] := .inl rfl
theorem sep_93 (r : List UInt8) : Sep (93 :: r) := .inr ⟨_, _, rfl, .inr rfl⟩
theorem sep_44 (r : List UInt8) : Sep (44 :: r) := .inr ⟨_, _, rfl, .inl rfl⟩
theorem cut_eq : ∀ (a b r r' : List UInt8), (∀ c ∈ a, c ≠ 44 ∧ c ≠ 93) → (∀ c ∈ b, c ≠ 44 ∧ c ≠ 93) → Sep r → Sep r' → a ++ r = b ++ r' → a = b ∧ r = r'
  | [], [], _, _, _, _, _, _, h => ⟨rfl, h⟩
  | [], c :: b, r, r', _, hb, hr, _, h => by
    have hc := hb c (.head _)
    simp only [List.nil_append, List.cons_append] at h
    rcases hr with e | ⟨d, t, e, hd⟩
    · rw [e] at h; cases h
    · rw [e] at h
      simp only [List.cons.injEq] at h
      rcases hd with hd | hd
      · exact absurd (h.1 ▸ hd) hc.1
      · exact absurd (h.1 ▸ hd) hc.2
  | c :: a, [], r, r', ha, _, _, hr, h => by
    have hc := ha c (.head _)
    simp only [List.nil_append, List.cons_append] at h
    rcases hr with e | ⟨d, t, e, hd⟩
    · rw [e] at h; cases h
    · rw [e] at h
      simp only [List.cons.injEq] at h
      rcases hd with hd | hd
      · exact absurd (h.1 ▸ hd) hc.1
      · exact absurd (h.1 ▸ hd) hc.2
  | c :: a, d :: b, r, r', ha, hb, hr, hr', h => by
    simp only [List.cons_append, List.cons.injEq] at h
    obtain ⟨e1, e2⟩ := cut_eq a b r r' (fun x hx => ha x (.tail _ hx)) (fun x hx => hb x (.tail _ hx)) hr hr' h.2
    exact ⟨by rw [h.1, e1], e2⟩
theorem itoa_bytes (i : Int) : ∀ c ∈ Lib.itoa i, c = 45 ∨ (48 ≤ c.toNat ∧ c.toNat ≤ 57) := by
  intro c hc
  unfold Lib.itoa at hc
  split at hc
  · rcases List.mem_cons.1 hc with e | e
    · exact .inl e
    · exact .inr (dec_digit _ _ (Nat.lt_succ_self _) c e)
  · exact .inr (dec_digit _ _ (Nat.lt_succ_self _) c hc)
theorem itoa_sep (i : Int) : ∀ c ∈ Lib.itoa i, c ≠ 44 ∧ c ≠ 93 := by
  intro c hc
  rcases itoa_bytes i c hc with h | h
  · rw [h]; decide
  · constructor <;> intro e <;> rw [e] at h <;> revert h <;> decide
theorem dec_ne (u : Nat) : Lib.decDigits u ≠ [] := by
  rw [Lib.decDigits]
  split
  · simp
  · simp
theorem itoa_ne (i : Int) : Lib.itoa i ≠ [] := by
  unfold Lib.itoa
  split
  · simp
  · exact dec_ne _
theorem itoa_inj {i j : Int} (h : Lib.itoa i = Lib.itoa j) : i = j := by
  have no : ∀ (u : Nat) (l : List UInt8), Lib.decDigits u ≠ 45 :: l := fun u l e => by
    have := dec_digit _ u (Nat.lt_succ_self _) 45 (by rw [e]; exact .head _)
    revert this; decide
  unfold Lib.itoa at h
  by_cases hi : i < 0
  · rw [if_pos hi] at h
    by_cases hj : j < 0
    · rw [if_pos hj] at h
      have := dec_inj (List.cons.inj h).2
      omega
    · rw [if_neg hj] at h; exact absurd h.symm (no _ _)
  · rw [if_neg hi] at h
    by_cases hj : j < 0
    · rw [if_pos hj] at h; exact absurd h (no _ _)
    · rw [if_neg hj] at h
      have := dec_inj h
      omega
/-- The kind that a first byte tells. -/
def kc (c : UInt8) : Int := if c = 110 then 0 else if c = 34 then 2 else if c = 91 then 3 else if c = 93 then 4 else 1
theorem print_first (x : VT) (hx : Good x) : ∃ c t, printV x = c :: t ∧ kc c = x.kind := by
  rw [Good_def] at hx
  obtain ⟨x0, x3, _⟩ := hx
  have hk : x.kind = 0 ∨ x.kind = 1 ∨ x.kind = 2 ∨ x.kind = 3 := by omega
  rw [printV_def]
  rcases hk with e | e | e | e <;> rw [e]
  · exact ⟨_, _, rfl, rfl⟩
  · cases hl : Lib.itoa x.int with
    | nil => exact absurd hl (itoa_ne _)
    | cons c t =>
      refine ⟨c, t, by simp, ?_⟩
      have := itoa_bytes x.int c (by rw [hl]; exact .head _)
      have n : c ≠ 110 ∧ c ≠ 34 ∧ c ≠ 91 ∧ c ≠ 93 := by
        rcases this with h | h
        · rw [h]; decide
        · refine ⟨?_, ?_, ?_, ?_⟩ <;> intro e <;> rw [e] at h <;> revert h <;> decide
      unfold kc
      rw [if_neg n.1, if_neg n.2.1, if_neg n.2.2.1, if_neg n.2.2.2]
  · exact ⟨34, _, rfl, rfl⟩
  · exact ⟨91, _, rfl, rfl⟩
theorem sep_T (l : List VT) (r : List UInt8) : Sep (printT l ++ 93 :: r) := by
  cases l with
  | nil => exact sep_93 _
  | cons x t => simp only [printT, List.cons_append, List.nil_append]; exact sep_44 _
theorem print_inj (k : Nat) : ∀ (x y : VT) (r r' : List UInt8), SizeOf.sizeOf x < k → Good x → Good y → Sep r → Sep r' → printV x ++ r = printV y ++ r' → x = y ∧ r = r' := by
  induction k with
  | zero => intro x y r r' h; omega
  | succ k ih =>
    intro x y r r' hk hx hy hr hr' h
    have keyT : ∀ (a b : List VT) (r r' : List UInt8), (∀ z ∈ a, SizeOf.sizeOf z < k) → GoodL a → GoodL b → printT a ++ 93 :: r = printT b ++ 93 :: r' → a = b ∧ r = r' := by
      intro a
      induction a with
      | nil =>
        intro b r r' _ _ _ h
        cases b with
        | nil => simpa [printT] using h
        | cons v t =>
          simp only [printT, List.nil_append, List.cons_append, List.cons.injEq] at h
          exact absurd h.1 (by decide)
      | cons u t iha =>
        intro b r r' hz ha hb h
        cases b with
        | nil =>
          simp only [printT, List.nil_append, List.cons_append, List.cons.injEq] at h
          exact absurd h.1 (by decide)
        | cons v t' =>
          simp only [GoodL] at ha hb
          simp only [printT, List.append_assoc, List.cons_append, List.nil_append, List.cons.injEq, true_and] at h
          obtain ⟨e1, h1⟩ := ih u v _ _ (hz u (.head _)) ha.1 hb.1 (sep_T t r) (sep_T t' r') h
          obtain ⟨e2, h2⟩ := iha t' r r' (fun z hz' => hz z (.tail _ hz')) ha.2 hb.2 h1
          exact ⟨by rw [e1, e2], h2⟩
    have keyL : ∀ (a b : List VT) (r r' : List UInt8), (∀ z ∈ a, SizeOf.sizeOf z < k) → GoodL a → GoodL b → printL a ++ 93 :: r = printL b ++ 93 :: r' → a = b ∧ r = r' := by
      intro a b r r' hz ha hb h
      cases a with
      | nil =>
        cases b with
        | nil => simpa [printL] using h
        | cons v t =>
          simp only [GoodL] at hb
          obtain ⟨c, l, e, hc⟩ := print_first v hb.1
          simp only [printL, e, List.nil_append, List.cons_append, List.append_assoc, List.cons.injEq] at h
          rw [← h.1] at hc
          rw [Good_def] at hb
          have : kc 93 = 4 := rfl
          omega
      | cons u t =>
        cases b with
        | nil =>
          simp only [GoodL] at ha
          obtain ⟨c, l, e, hc⟩ := print_first u ha.1
          simp only [printL, e, List.nil_append, List.cons_append, List.append_assoc, List.cons.injEq] at h
          rw [h.1] at hc
          rw [Good_def] at ha
          have : kc 93 = 4 := rfl
          omega
        | cons v t' =>
          simp only [GoodL] at ha hb
          simp only [printL, List.append_assoc] at h
          obtain ⟨e1, h1⟩ := ih u v _ _ (hz u (.head _)) ha.1 hb.1 (sep_T t r) (sep_T t' r') h
          obtain ⟨e2, h2⟩ := keyT t t' r r' (fun z hz' => hz z (.tail _ hz')) ha.2 hb.2 h1
          exact ⟨by rw [e1, e2], h2⟩
    have hi := fun z hz => items_lt (x := x) (z := z) hz
    have hkk : x.kind = y.kind := by
      obtain ⟨c, t, e, hc⟩ := print_first x hx
      obtain ⟨c', t', e', hc'⟩ := print_first y hy
      rw [e, e', List.cons_append, List.cons_append] at h
      rw [← hc, ← hc', (List.cons.inj h).1]
    rw [Good_def] at hx hy
    obtain ⟨x0, x3, xi, xs, xl, xt, xn, xg⟩ := hx
    obtain ⟨y0, y3, yi, ys, yl, yt, yn, yg⟩ := hy
    have fin : x.kind = y.kind → x.int = y.int → x.text.toList = y.text.toList → x.items = y.items → x = y := fun h1 h2 h3 h4 => by
      have ht := bytes_ext h3
      cases x; cases y
      simp only [VT.kind, VT.int, VT.text, VT.items] at *
      rw [h1, h2, ht, h4]
    have hkx : x.kind = 0 ∨ x.kind = 1 ∨ x.kind = 2 ∨ x.kind = 3 := by omega
    rw [printV_def, printV_def, ← hkk] at h
    rw [← hkk] at yi ys yl
    rcases hkx with e | e | e | e <;> rw [e] at h xi xs xl yi ys yl
    · simp at h
      exact ⟨fin hkk (by rw [xi (by decide), yi (by decide)]) (by rw [xs (by decide), ys (by decide)]) (by rw [xl (by decide), yl (by decide)]), h⟩
    · simp at h
      obtain ⟨h1, h2⟩ := cut_eq _ _ _ _ (itoa_sep _) (itoa_sep _) hr hr' h
      exact ⟨fin hkk (itoa_inj h1) (by rw [xs (by decide), ys (by decide)]) (by rw [xl (by decide), yl (by decide)]), h2⟩
    · simp at h
      obtain ⟨h1, h2⟩ := quote_inj h
      exact ⟨fin hkk (by rw [xi (by decide), yi (by decide)]) (by rw [h1]) (by rw [xl (by decide), yl (by decide)]), h2⟩
    · simp at h
      obtain ⟨h1, h2⟩ := keyL x.items y.items r r' (fun z hz => by have := hi z hz; omega) xg yg h
      exact ⟨fin hkk (by rw [xi (by decide), yi (by decide)]) (by rw [xs (by decide), ys (by decide)]) h1, h2⟩
theorem txt_inj {x y : VT} (h : printTxt x = printTxt y) : validV x = validV y :=
  (print_inj _ _ _ [] [] (Nat.lt_succ_self _) (validV_good x) (validV_good y) sep_nil sep_nil (by rw [List.append_nil, List.append_nil]; exact h)).1
theorem enc_pre {x y : VT} (h : encodeV y <+: encodeV x) : validV x = validV y := by
  obtain ⟨r, h⟩ := h
  exact ((enc_inj _ _ _ r [] (Nat.lt_succ_self _) (validV_good y) (validV_good x) (by rw [List.append_nil]; exact h)).1).symm
theorem pair_true (x y : VT) : pairV x y = true := by
  have hr := cmp_rg x y
  have ha := cmp_anti x y
  have hs := cmp_same x y
  have hx := validV_good x
  have hy := validV_good y
  unfold pairV
  rw [if_neg (by rcases hr with h | h | h <;> omega)]
  by_cases h : sameV (validV x) (validV y) = true
  · rw [if_pos h]
    have e := same_eq _ _ _ (Nat.lt_succ_self _) h
    rw [decide_eq_true_eq]
    refine ⟨hs.2 h, ?_, ?_⟩
    · unfold printTxt; rw [e]
    · unfold encodeV; rw [e]
  · rw [if_neg h]
    have hc : ¬ cmpV x y = 0 := fun e => h (hs.1 e)
    have hn : validV x ≠ validV y := fun e => hc (by
      have := cmp_anti x y
      unfold cmpV at this ⊢
      rw [e] at this ⊢
      omega)
    rw [if_neg (by
      rintro (h1 | h1 | h1 | h1)
      · exact hc h1
      · exact hn (txt_inj h1)
      · exact hn (enc_pre h1)
      · exact hn (enc_pre h1).symm)]
    have hl : cmpV x y = lex _ _ := ord_lex (validV x) (validV y)
    by_cases hk : (validV x).kind = (validV y).kind
    · rw [if_neg (fun hh => hh hk)]
      by_cases h1 : (validV x).kind = 1
      · rw [if_pos h1]
        have hi : (validV x).int ≠ (validV y).int := fun e => by
          apply hn
          rw [Good_def] at hx hy
          obtain ⟨x0, x3, xi, xs, xl, xt, xn, xg⟩ := hx
          obtain ⟨y0, y3, yi, ys, yl, yt, yn, yg⟩ := hy
          have h3 := xs (by omega)
          have h4 := ys (by omega)
          have h5 := xl (by omega)
          have h6 := yl (by omega)
          have ht := bytes_ext (h3.trans h4.symm)
          generalize validV x = a at *
          generalize validV y = b at *
          cases a; cases b
          simp only [VT.kind, VT.int, VT.text, VT.items] at *
          rw [hk, e, ht, h5, h6]
        have hcI : ¬ cI (validV x).int (validV y).int = 0 := fun e => hi (cI_zero.1 e)
        rw [(cI_zero (a := (validV x).kind)).2 hk, lex0, if_pos h1, lexn _ hcI] at hl
        rw [hl, beq_iff_eq, decide_eq_decide]
        exact cI_neg.symm
      · rw [if_neg h1]
    · rw [if_pos hk]
      have hcI : ¬ cI (validV x).kind (validV y).kind = 0 := fun e => hk (cI_zero.1 e)
      rw [lexn _ hcI] at hl
      rw [hl, beq_iff_eq, decide_eq_decide]
      exact cI_neg.symm
end Go.Proofs.YtjellmblammiaaaDoor
