/- Plain law: what reads an encoding: it reads back what encV writes, whatever follows; what it reads is valid and has that encoding; each beginning of an encoding is refused. -/
import Derived.Test.YtjellmblammiaaaDoorRdq
namespace Go.Proofs.YtjellmblammiaaaDoor
open Go Tr
set_option maxRecDepth 100000
def unzig (u : Nat) : Int := if u % 2 = 0 then ((u / 2 : Nat) : Int) else -((u / 2 : Nat) : Int) - 1
def intM : Nat → Nat → Nat → List UInt8 → Except Int (Int × List UInt8)
  | 0, _, _, _ => .error 28
  | _ + 1, _, _, [] => .error 28
  | f + 1, j, u, c :: l => if (j = 9 ∧ c.toNat > 1) ∨ (0 < j ∧ c.toNat = 0) then .error 28
    else if c.toNat < 128 then .ok (unzig (u + c.toNat % 128 * 128 ^ j), l) else intM f (j + 1) (u + c.toNat % 128 * 128 ^ j) l
def textM : List UInt8 → Except Int (ByteArray × List UInt8)
  | [] => .error 28
  | c :: l => if c.toNat > 24 then .error 21 else if l.length < c.toNat then .error 28 else .ok (⟨(l.take c.toNat).toArray⟩, l.drop c.toNat)
def decL (f : List UInt8 → Int → Except Int (VT × List UInt8 × Int)) : Nat → List VT → List UInt8 → Int → Except Int (List VT × List UInt8 × Int)
  | 0, acc, l, n => .ok (acc, l, n)
  | m + 1, acc, l, n => match f l n with
    | .error e => .error e
    | .ok (x, l', n') => decL f m (acc ++ [x]) l' n'
/-- What the decoder reads. -/
def decV : Nat → Int → List UInt8 → Int → Except Int (VT × List UInt8 × Int)
  | 0, _, _, _ => .error 28
  | _ + 1, _, [], _ => .error 28
  | k + 1, depth, c :: l, n =>
    if n + 1 > 12 then .error 22
    else if c.toNat > 3 then .error 28
    else if c.toNat = 3 ∧ depth ≥ 3 then .error 23
    else if c.toNat = 1 then match intM 10 0 0 l with
      | .error e => .error e
      | .ok (i, l') => .ok (.mk 1 i (bytesL []) [], l', n + 1)
    else if c.toNat = 2 then match textM l with
      | .error e => .error e
      | .ok (s, l') => .ok (.mk 2 0 s [], l', n + 1)
    else if c.toNat = 3 then match l with
      | [] => .error 28
      | m :: l' => if m.toNat > 6 then .error 22 else match decL (decV k (depth + 1)) m.toNat [] l' (n + 1) with
        | .error e => .error e
        | .ok (xs, l'', n') => .ok (.mk 3 0 (bytesL []) xs, l'', n')
    else .ok (noneV, l, n + 1)

theorem unzig_zig (i : Int) : unzig (zig i) = i := by
  unfold zig unzig
  split
  · rw [if_pos (by omega)]; omega
  · rw [if_neg (by omega)]; omega
theorem zig_unzig (u : Nat) : zig (unzig u) = u := by
  unfold zig unzig
  split
  · rw [if_pos (by omega)]; omega
  · rw [if_neg (by omega)]; omega
theorem zig_lt {i : Int} (h : Rng i) : zig i < 128 ^ 9 * 2 := by
  unfold Rng at h; unfold zig
  split <;> omega
theorem unzig_rng {u : Nat} (h : u < 128 ^ 9 * 2) : Rng (unzig u) := by
  unfold Rng; unfold unzig
  split <;> omega
theorem toNat_of (n : Nat) (h : n < 256) : (UInt8.ofNat n).toNat = n := by rw [UInt8.toNat_ofNat']; omega
/-- Groups are read back. -/
theorem int_groups : ∀ (f j u v : Nat) (r : List UInt8), j + f = 10 → v * 128 ^ j < 128 ^ 9 * 2 → 0 < f → (0 < j → 0 < v) → intM f j u (groupsB v ++ r) = .ok (unzig (u + v * 128 ^ j), r)
  | 0, _, _, _, _, _, _, h, _ => by omega
  | f + 1, j, u, v, r, hf, hv, _, hj => by
    by_cases h : v ≥ 128
    · have hj9 : j < 9 := by
        rcases Nat.lt_or_ge j 9 with h' | h'
        · exact h'
        · exfalso
          obtain rfl : j = 9 := by omega
          omega
      rw [groupsB_ge h, List.cons_append]
      have e := toNat_of (v % 128 + 128) (by omega)
      unfold intM
      rw [e, if_neg (by omega), if_neg (by omega)]
      have e2 : (v % 128 + 128) % 128 = v % 128 := by omega
      rw [e2, int_groups f (j + 1) _ (v / 128) r (by omega) ?_ (by omega) (by omega)]
      · congr 2
        congr 1
        have : v * 128 ^ j = (v % 128 + 128 * (v / 128)) * 128 ^ j := by rw [Nat.mod_add_div]
        rw [this, Nat.pow_succ, Nat.add_mul, Nat.mul_comm 128 (v / 128), Nat.mul_assoc (v / 128) 128, Nat.mul_comm 128 (128 ^ j), Nat.add_assoc]
      · have : v / 128 * 128 ^ (j + 1) ≤ v * 128 ^ j := by
          rw [Nat.pow_succ, Nat.mul_comm (128 ^ j) 128, ← Nat.mul_assoc]
          exact Nat.mul_le_mul_right _ (Nat.div_mul_le_self _ _)
        omega
    · rw [groupsB_lt h, List.cons_append, List.nil_append]
      have e := toNat_of v (by omega)
      unfold intM
      rw [e]
      have c1 : ¬ ((j = 9 ∧ v > 1) ∨ (0 < j ∧ v = 0)) := by
        rintro (⟨rfl, h1⟩ | ⟨h1, h2⟩)
        · omega
        · exact absurd (hj h1) (by omega)
      rw [if_neg c1, if_pos (by omega), show v % 128 = v by omega]
/-- What is read as groups is the groups of what is read. -/
theorem groups_int : ∀ (f j u : Nat) (l : List UInt8) (i : Int) (l' : List UInt8), j + f = 10 → u < 128 ^ j → intM f j u l = .ok (i, l') → ∃ v, i = unzig (u + v * 128 ^ j) ∧ l = groupsB v ++ l' ∧ u + v * 128 ^ j < 128 ^ 9 * 2 ∧ (0 < j → 0 < v)
  | 0, _, _, _, _, _, _, _, h => by simp [intM] at h
  | f + 1, j, u, [], _, _, _, _, h => by simp [intM] at h
  | f + 1, j, u, c :: l, i, l', hf, hu, h => by
    unfold intM at h
    have hc := c.toNat_lt
    by_cases c1 : (j = 9 ∧ c.toNat > 1) ∨ (0 < j ∧ c.toNat = 0)
    · rw [if_pos c1] at h; cases h
    rw [if_neg c1] at h
    have hp : 0 < 128 ^ j := Nat.pos_of_ne_zero (by simp)
    by_cases c2 : c.toNat < 128
    · rw [if_pos c2, show c.toNat % 128 = c.toNat by omega] at h
      simp only [Except.ok.injEq, Prod.mk.injEq] at h
      refine ⟨c.toNat, h.1.symm, ?_, ?_, fun hj => ?_⟩
      · rw [groupsB_lt (by omega), h.2]
        simp
      · rcases Nat.lt_or_ge j 9 with h' | h'
        · have h1 : c.toNat * 128 ^ j ≤ 127 * 128 ^ j := Nat.mul_le_mul_right _ (by omega)
          have h2 : 128 ^ (j + 1) ≤ 128 ^ 9 := Nat.pow_le_pow_right (by omega) (by omega)
          rw [Nat.pow_succ] at h2
          omega
        · obtain rfl : j = 9 := by omega
          have : c.toNat ≤ 1 := Nat.le_of_not_lt fun h => c1 (.inl ⟨rfl, h⟩)
          have h1 : c.toNat * 128 ^ 9 ≤ 1 * 128 ^ 9 := Nat.mul_le_mul_right _ this
          omega
      · exact Nat.pos_of_ne_zero fun e => c1 (.inr ⟨hj, e⟩)
    · rw [if_neg c2] at h
      have hlt : u + c.toNat % 128 * 128 ^ j < 128 ^ (j + 1) := by
        have h1 : c.toNat % 128 * 128 ^ j ≤ 127 * 128 ^ j := Nat.mul_le_mul_right _ (by omega)
        rw [Nat.pow_succ]; omega
      obtain ⟨v, e1, e2, e3, e4⟩ := groups_int f (j + 1) _ l i l' (by omega) hlt h
      have e4 := e4 (by omega)
      have e : u + (c.toNat % 128 + v * 128) * 128 ^ j = u + c.toNat % 128 * 128 ^ j + v * 128 ^ (j + 1) := by
        rw [Nat.pow_succ, Nat.add_mul, Nat.mul_assoc v, Nat.mul_comm 128 (128 ^ j), Nat.add_assoc]
      refine ⟨c.toNat % 128 + v * 128, by rw [e]; exact e1, ?_, by rw [e]; exact e3, fun _ => by omega⟩
      rw [groupsB_ge (by omega), e2]
      have a1 : (c.toNat % 128 + v * 128) % 128 + 128 = c.toNat := by omega
      have a2 : (c.toNat % 128 + v * 128) / 128 = v := by omega
      rw [a1, a2]
      simp
theorem int_pre : ∀ (f j u v : Nat) (m : Nat), m < (groupsB v).length → j + f = 10 → v * 128 ^ j < 128 ^ 9 * 2 → intM f j u ((groupsB v).take m) = .error 28
  | 0, _, _, _, _, _, _, _ => rfl
  | f + 1, j, u, v, 0, _, _, _ => by simp [intM]
  | f + 1, j, u, v, m + 1, hm, hf, hv => by
    by_cases h : v ≥ 128
    · rw [groupsB_ge h] at hm ⊢
      rw [List.take_succ_cons]
      have e := toNat_of (v % 128 + 128) (by omega)
      unfold intM
      rw [e]
      split
      · rfl
      rw [if_neg (by omega)]
      refine int_pre f (j + 1) _ (v / 128) m (by simpa using hm) (by omega) ?_
      have : v / 128 * 128 ^ (j + 1) ≤ v * 128 ^ j := by
        rw [Nat.pow_succ, Nat.mul_comm (128 ^ j) 128, ← Nat.mul_assoc]
        exact Nat.mul_le_mul_right _ (Nat.div_mul_le_self _ _)
      omega
    · rw [groupsB_lt h] at hm; simp at hm
theorem noneV_eq : noneV = .mk 0 0 (bytesL []) [] := rfl
theorem text_back (s : ByteArray) (r : List UInt8) (h : s.size ≤ 24) : textM (UInt8.ofNat s.size :: (s.data.toList ++ r)) = .ok (s, r) := by
  have e := toNat_of s.size (by omega)
  have hl : s.data.toList.length = s.size := by simp
  unfold textM
  dsimp only
  rw [e, if_neg (by omega), if_neg (by rw [List.length_append]; omega), List.take_left' hl, List.drop_left' hl]
theorem text_is {l : List UInt8} {s : ByteArray} {l' : List UInt8} (h : textM l = .ok (s, l')) : s.size ≤ 24 ∧ l = UInt8.ofNat s.size :: (s.data.toList ++ l') := by
  cases l with
  | nil => cases h
  | cons c l =>
    unfold textM at h
    dsimp only at h
    by_cases c1 : c.toNat > 24
    · rw [if_pos c1] at h; cases h
    rw [if_neg c1] at h
    by_cases c2 : l.length < c.toNat
    · rw [if_pos c2] at h; cases h
    rw [if_neg c2] at h
    cases h
    have hs : (⟨(l.take c.toNat).toArray⟩ : ByteArray).size = c.toNat := by
      show (l.take c.toNat).toArray.size = _
      simp; omega
    refine ⟨by omega, ?_⟩
    rw [hs, UInt8.ofNat_toNat]
    simp
theorem text_pre (s : ByteArray) (h : s.size ≤ 24) (m : Nat) (hm : m < s.size + 1) : textM ((UInt8.ofNat s.size :: s.data.toList).take m) = .error 28 := by
  cases m with
  | zero => rfl
  | succ m =>
    have e := toNat_of s.size (by omega)
    rw [List.take_succ_cons]
    unfold textM
    dsimp only
    rw [e, if_neg (by omega), if_pos]
    rw [List.length_take]; omega
/-- What is written is read back, whatever follows. -/
theorem dec_enc (k : Nat) : ∀ (x : VT) (n depth n' : Int) (r : List UInt8), 3 - depth < (k : Int) → Fit x → partV n depth x = (0, n') → decV k depth (encV x ++ r) n = .ok (x, r, n') ∨ k = 0 := by
  induction k with
  | zero => intro x n depth n' r _ _ _; exact .inr rfl
  | succ k ih =>
    intro x n depth n' r hd hf hp
    left
    have fin : ∀ y : VT, x.kind = y.kind → x.int = y.int → x.text.toList = y.text.toList → x.items = y.items → y = x := fun y h1 h2 h3 h4 => by
      have ht := bytes_ext h3
      cases x; cases y
      simp only [VT.kind, VT.int, VT.text, VT.items] at *
      rw [h1, h2, ht, h4]
    rw [partV_def] at hp
    by_cases c1 : n + 1 > 12
    · rw [if_pos c1] at hp; simp at hp
    rw [if_neg c1] at hp
    by_cases c2 : x.kind < 0 ∨ x.kind > 3
    · rw [if_pos c2] at hp; simp at hp
    rw [if_neg c2] at hp
    by_cases c3 : (x.int ≠ 0 ∧ x.kind ≠ 1) ∨ (x.text.toList ≠ [] ∧ x.kind ≠ 2) ∨ (0 < x.items.length ∧ x.kind ≠ 3)
    · rw [if_pos c3] at hp; simp at hp
    rw [if_neg c3] at hp
    by_cases c4 : x.kind = 3 ∧ depth ≥ 3
    · rw [if_pos c4] at hp; simp at hp
    rw [if_neg c4] at hp
    by_cases c5 : x.text.size > 24
    · rw [if_pos c5] at hp; simp at hp
    rw [if_neg c5] at hp
    by_cases c6 : x.items.length > 6
    · rw [if_pos c6] at hp; simp at hp
    rw [if_neg c6] at hp
    have ei : x.kind ≠ 1 → x.int = 0 := fun h => Decidable.byContradiction fun h' => c3 (.inl ⟨h', h⟩)
    have es : x.kind ≠ 2 → x.text.toList = [] := fun h => Decidable.byContradiction fun h' => c3 (.inr (.inl ⟨h', h⟩))
    have el : x.kind ≠ 3 → x.items = [] := fun h => by
      cases hl : x.items with
      | nil => rfl
      | cons a l => exact absurd (.inr (.inr ⟨by rw [hl]; simp, h⟩)) c3
    have hkx : x.kind = 0 ∨ x.kind = 1 ∨ x.kind = 2 ∨ x.kind = 3 := by omega
    have nob : (bytesL []).toList = [] := bytesL_nil
    rw [encV_def]
    rw [Fit_def] at hf
    rcases hkx with e | e | e | e
    · have hn : n' = n + 1 := by
        rw [el (by omega)] at hp
        simp only [partL, Prod.mk.injEq, true_and] at hp
        exact hp.symm
      rw [e, if_neg (by decide), if_neg (by decide), if_neg (by decide), List.cons_append, List.nil_append]
      unfold decV
      rw [if_neg c1, if_neg (by decide), if_neg (by simp), if_neg (by decide), if_neg (by decide), if_neg (by decide)]
      rw [hn, fin noneV e (ei (by omega)) ((es (by omega)).trans nob.symm) (el (by omega))]
    · have hn : n' = n + 1 := by
        rw [el (by omega)] at hp
        simp only [partL, Prod.mk.injEq, true_and] at hp
        exact hp.symm
      rw [e, if_pos rfl, List.cons_append]
      unfold decV
      rw [if_neg c1, if_neg (by decide), if_neg (by simp), if_pos (by decide), int_groups 10 0 0 (zig x.int) r rfl (by have := zig_lt hf.2.1; simpa using this) (by omega) (by omega)]
      have : unzig (0 + zig x.int * 128 ^ 0) = x.int := by rw [Nat.pow_zero, Nat.mul_one, Nat.zero_add, unzig_zig]
      rw [this]
      dsimp only
      rw [hn, fin (.mk 1 x.int (bytesL []) []) e rfl ((es (by omega)).trans nob.symm) (el (by omega))]
    · have hn : n' = n + 1 := by
        rw [el (by omega)] at hp
        simp only [partL, Prod.mk.injEq, true_and] at hp
        exact hp.symm
      rw [e, if_neg (by decide), if_pos rfl, List.cons_append, List.cons_append]
      unfold decV
      rw [if_neg c1, if_neg (by decide), if_neg (by simp), if_neg (by decide), if_pos (by decide), text_back _ _ (by omega)]
      dsimp only
      rw [hn, fin (.mk 2 0 x.text []) e (ei (by omega)) rfl (el (by omega))]
    · have hdep : depth < 3 := by omega
      have key : ∀ (l acc : List VT) (n n' : Int), FitL l → partL n depth l = (0, n') → decL (decV k (depth + 1)) l.length acc (encL l ++ r) n = .ok (acc ++ l, r, n') := by
        intro l
        induction l with
        | nil =>
          intro acc n n' _ h
          simp only [partL, Prod.mk.injEq, true_and] at h
          simp [decL, encL, h]
        | cons z l ihl =>
          intro acc n n' hf h
          simp only [FitL] at hf
          simp only [partL] at h
          by_cases he : (partV n (depth + 1) z).1 = 0
          · rw [if_neg (fun h => h he)] at h
            have hz := ih z n (depth + 1) _ (encL l ++ r) (by omega) hf.1 (Prod.ext he rfl : partV n (depth + 1) z = (0, (partV n (depth + 1) z).2))
            have hz := hz.resolve_right (by omega)
            rw [List.length_cons, encL, List.append_assoc]
            unfold decL
            rw [hz]
            dsimp only
            rw [ihl (acc ++ [z]) _ n' hf.2 h, List.append_assoc]
            rfl
          · rw [if_pos he] at h
            rw [h] at he; exact absurd rfl he
      rw [e, if_neg (by decide), if_neg (by decide), if_pos rfl, List.cons_append, List.cons_append]
      unfold decV
      have em := toNat_of x.items.length (by omega)
      rw [if_neg c1, if_neg (by decide), if_neg (by omega), if_neg (by decide), if_neg (by decide), if_pos (by decide)]
      dsimp only
      rw [em, if_neg c6, key x.items [] (n + 1) n' hf.2.2.2 hp]
      dsimp only
      rw [List.nil_append, fin (.mk 3 0 (bytesL []) x.items) e (ei (by omega)) ((es (by omega)).trans nob.symm) rfl]
/-- What is read is a value within the limits, and it was its encoding that was read. -/
theorem dec_is (k : Nat) : ∀ (l : List UInt8) (n depth : Int) (x : VT) (l' : List UInt8) (n' : Int), decV k depth l n = .ok (x, l', n') → partV n depth x = (0, n') ∧ l = encV x ++ l' ∧ Fit x := by
  induction k with
  | zero => intro l n depth x l' n' h; cases h
  | succ k ih =>
    intro l n depth x l' n' h
    cases l with
    | nil => cases h
    | cons c l =>
      have rng0 : Rng 0 := by unfold Rng; decide
      have bs0 : (bytesL []).size ≤ 9223372036854775807 := by decide
      have hcn : ∀ m : Nat, m < 256 → c.toNat = m → c = UInt8.ofNat m := fun m _ e => by rw [← e]; simp
      unfold decV at h
      by_cases c1 : n + 1 > 12
      · rw [if_pos c1] at h; cases h
      rw [if_neg c1] at h
      by_cases c2 : c.toNat > 3
      · rw [if_pos c2] at h; cases h
      rw [if_neg c2] at h
      by_cases c3 : c.toNat = 3 ∧ depth ≥ 3
      · rw [if_pos c3] at h; cases h
      rw [if_neg c3] at h
      by_cases k1 : c.toNat = 1
      · rw [if_pos k1] at h
        cases hi : intM 10 0 0 l with
        | error e => rw [hi] at h; cases h
        | ok y =>
          obtain ⟨i, r⟩ := y
          rw [hi] at h
          cases h
          obtain ⟨v, e1, e2, e3, _⟩ := groups_int 10 0 0 l i l' rfl (by decide) hi
          rw [Nat.pow_zero, Nat.mul_one, Nat.zero_add] at e1 e3
          refine ⟨?_, ?_, ?_⟩
          · rw [partV_def]
            simp only [VT.kind, VT.int, VT.text, VT.items, bytesL_nil]
            rw [if_neg c1]
            simp [partL]
            decide
          · rw [encV_def, hcn 1 (by omega) k1]
            simp only [VT.kind, VT.int, if_pos]
            rw [e1, zig_unzig, e2]; rfl
          · rw [Fit_def]
            exact ⟨by show Rng 1; unfold Rng; decide, by show Rng i; rw [e1]; exact unzig_rng e3, bs0, trivial⟩
      rw [if_neg k1] at h
      by_cases k2 : c.toNat = 2
      · rw [if_pos k2] at h
        cases hi : textM l with
        | error e => rw [hi] at h; cases h
        | ok y =>
          obtain ⟨s, r⟩ := y
          rw [hi] at h
          cases h
          obtain ⟨e1, e2⟩ := text_is hi
          refine ⟨?_, ?_, ?_⟩
          · rw [partV_def]
            simp only [VT.kind, VT.int, VT.text, VT.items]
            rw [if_neg c1]
            simp [partL]
            exact e1
          · rw [encV_def, hcn 2 (by omega) k2]
            simp only [VT.kind, VT.text]
            rw [if_neg (by decide), if_pos (by decide), e2]; rfl
          · rw [Fit_def]
            exact ⟨by show Rng 2; unfold Rng; decide, rng0, by show s.size ≤ _; omega, trivial⟩
      rw [if_neg k2] at h
      by_cases k3 : c.toNat = 3
      · rw [if_pos k3] at h
        cases l with
        | nil => cases h
        | cons m l =>
          dsimp only at h
          by_cases c6 : m.toNat > 6
          · rw [if_pos c6] at h; cases h
          rw [if_neg c6] at h
          have key : ∀ (f : Nat) (acc xs : List VT) (l l' : List UInt8) (n n' : Int), decL (decV k (depth + 1)) f acc l n = .ok (xs, l', n') → ∃ ys, xs = acc ++ ys ∧ ys.length = f ∧ partL n depth ys = (0, n') ∧ l = encL ys ++ l' ∧ FitL ys := by
            intro f
            induction f with
            | zero =>
              intro acc xs l l' n n' h
              simp only [decL, Except.ok.injEq, Prod.mk.injEq] at h
              exact ⟨[], by simp [h.1], rfl, by simp [partL, h.2.2], by simp [encL, h.2.1], trivial⟩
            | succ f ihf =>
              intro acc xs l l' n n' h
              unfold decL at h
              cases hd : decV k (depth + 1) l n with
              | error e => rw [hd] at h; cases h
              | ok y =>
                obtain ⟨z, r, n1⟩ := y
                rw [hd] at h
                dsimp only at h
                obtain ⟨z1, z2, z3⟩ := ih _ _ _ _ _ _ hd
                obtain ⟨ys, y1, y2, y3, y4, y5⟩ := ihf _ _ _ _ _ _ h
                refine ⟨z :: ys, by rw [y1, List.append_assoc]; rfl, by simp [y2], ?_, ?_, ⟨z3, y5⟩⟩
                · simp only [partL, z1]
                  rw [if_neg (by simp)]; exact y3
                · rw [z2, y4, encL, List.append_assoc]
          cases hd : decL (decV k (depth + 1)) m.toNat [] l (n + 1) with
          | error e => rw [hd] at h; cases h
          | ok y =>
            obtain ⟨xs, r, n1⟩ := y
            rw [hd] at h
            cases h
            obtain ⟨ys, y1, y2, y3, y4, y5⟩ := key _ _ _ _ _ _ _ hd
            rw [List.nil_append] at y1
            subst y1
            have hdep : ¬ depth ≥ 3 := fun h => c3 ⟨k3, h⟩
            refine ⟨?_, ?_, ?_⟩
            · rw [partV_def]
              simp only [VT.kind, VT.int, VT.text, VT.items, bytesL_nil]
              rw [if_neg c1]
              have b24 : ¬ (bytesL []).size > 24 := by decide
              have y6 : ¬ xs.length > 6 := by omega
              simp only [hdep, b24, y6, if_false, and_false, ne_eq, not_true_eq_false, or_self, y3]
              simp
            · rw [encV_def, hcn 3 (by omega) k3]
              simp only [VT.kind, VT.items]
              rw [if_neg (by decide), if_neg (by decide), if_pos (by decide), y2, y4]
              simp
            · rw [Fit_def]
              exact ⟨by show Rng 3; unfold Rng; decide, rng0, bs0, y5⟩
      rw [if_neg k3] at h
      cases h
      refine ⟨?_, ?_, ?_⟩
      · rw [partV_def, noneV_eq]
        simp only [VT.kind, VT.int, VT.text, VT.items, bytesL_nil]
        rw [if_neg c1]
        simp [partL]
        decide
      · rw [hcn 0 (by omega) (by omega)]; rfl
      · exact noneV_fit
/-- The faults that the decoder tells. -/
def DecErr (e : Int) : Prop := e = 21 ∨ e = 22 ∨ e = 23 ∨ e = 28
theorem int_err : ∀ (f j u : Nat) (l : List UInt8) (e : Int), intM f j u l = .error e → e = 28
  | 0, _, _, _, _, h => by cases h; rfl
  | f + 1, j, u, [], _, h => by cases h; rfl
  | f + 1, j, u, c :: l, e, h => by
    unfold intM at h
    split at h
    · cases h; rfl
    · split at h
      · cases h
      · exact int_err f _ _ l e h
theorem text_err {l : List UInt8} {e : Int} (h : textM l = .error e) : e = 21 ∨ e = 28 := by
  unfold textM at h
  split at h
  · cases h; exact .inr rfl
  · split at h
    · cases h; exact .inl rfl
    · split at h
      · cases h; exact .inr rfl
      · cases h
theorem decL_err {f : List UInt8 → Int → Except Int (VT × List UInt8 × Int)} (hf : ∀ l n e, f l n = .error e → DecErr e) : ∀ (m : Nat) (acc : List VT) (l : List UInt8) (n : Int) (e : Int), decL f m acc l n = .error e → DecErr e
  | 0, _, _, _, _, h => by cases h
  | m + 1, acc, l, n, e, h => by
    unfold decL at h
    cases hd : f l n with
    | error e' => rw [hd] at h; cases h; exact hf _ _ _ hd
    | ok y =>
      obtain ⟨x, l', n'⟩ := y
      rw [hd] at h
      exact decL_err hf m _ _ _ _ h
theorem dec_err : ∀ (k : Nat) (depth : Int) (l : List UInt8) (n : Int) (e : Int), decV k depth l n = .error e → DecErr e
  | 0, _, _, _, _, h => by cases h; exact .inr (.inr (.inr rfl))
  | _ + 1, _, [], _, _, h => by cases h; exact .inr (.inr (.inr rfl))
  | k + 1, depth, c :: l, n, e, h => by
    unfold decV at h
    split at h
    · cases h; exact .inr (.inl rfl)
    split at h
    · cases h; exact .inr (.inr (.inr rfl))
    split at h
    · cases h; exact .inr (.inr (.inl rfl))
    split at h
    · cases hi : intM 10 0 0 l with
      | error e' => rw [hi] at h; cases h; exact .inr (.inr (.inr (int_err _ _ _ _ _ hi)))
      | ok y => rw [hi] at h; cases h
    split at h
    · cases hi : textM l with
      | error e' => rw [hi] at h; cases h; exact (text_err hi).elim .inl fun h => .inr (.inr (.inr h))
      | ok y => rw [hi] at h; cases h
    split at h
    · cases l with
      | nil => cases h; exact .inr (.inr (.inr rfl))
      | cons m l =>
        dsimp only at h
        split at h
        · cases h; exact .inr (.inl rfl)
        · cases hd : decL (decV k (depth + 1)) m.toNat [] l (n + 1) with
          | error e' => rw [hd] at h; cases h; exact decL_err (fun l n e h => dec_err k _ l n e h) _ _ _ _ _ hd
          | ok y => rw [hd] at h; cases h
    · cases h
/-- Each beginning of an encoding ends too early. -/
theorem dec_pre (k : Nat) : ∀ (x : VT) (n depth n' : Int) (m : Nat), 3 - depth < (k : Int) → Fit x → partV n depth x = (0, n') → m < (encV x).length → decV k depth ((encV x).take m) n = .error 28 := by
  induction k with
  | zero => intro x n depth n' m _ _ _ _; rfl
  | succ k ih =>
    intro x n depth n' m hd hf hp hm
    rw [partV_def] at hp
    by_cases c1 : n + 1 > 12
    · rw [if_pos c1] at hp; simp at hp
    rw [if_neg c1] at hp
    by_cases c2 : x.kind < 0 ∨ x.kind > 3
    · rw [if_pos c2] at hp; simp at hp
    rw [if_neg c2] at hp
    by_cases c3 : (x.int ≠ 0 ∧ x.kind ≠ 1) ∨ (x.text.toList ≠ [] ∧ x.kind ≠ 2) ∨ (0 < x.items.length ∧ x.kind ≠ 3)
    · rw [if_pos c3] at hp; simp at hp
    rw [if_neg c3] at hp
    by_cases c4 : x.kind = 3 ∧ depth ≥ 3
    · rw [if_pos c4] at hp; simp at hp
    rw [if_neg c4] at hp
    by_cases c5 : x.text.size > 24
    · rw [if_pos c5] at hp; simp at hp
    rw [if_neg c5] at hp
    by_cases c6 : x.items.length > 6
    · rw [if_pos c6] at hp; simp at hp
    rw [if_neg c6] at hp
    have hkx : x.kind = 0 ∨ x.kind = 1 ∨ x.kind = 2 ∨ x.kind = 3 := by omega
    rw [encV_def] at hm ⊢
    rw [Fit_def] at hf
    cases m with
    | zero => rfl
    | succ m =>
    rcases hkx with e | e | e | e
    · rw [e, if_neg (by decide), if_neg (by decide), if_neg (by decide)] at hm
      simp at hm
    · rw [e, if_pos rfl] at hm ⊢
      rw [List.take_succ_cons]
      unfold decV
      rw [if_neg c1, if_neg (by decide), if_neg (by simp), if_pos (by decide), int_pre 10 0 0 (zig x.int) m (by simpa using hm) rfl (by have := zig_lt hf.2.1; simpa using this)]
    · rw [e, if_neg (by decide), if_pos rfl] at hm ⊢
      rw [List.take_succ_cons]
      unfold decV
      rw [if_neg c1, if_neg (by decide), if_neg (by simp), if_neg (by decide), if_pos (by decide), text_pre _ (by omega) m (by simpa using hm)]
    · rw [e, if_neg (by decide), if_neg (by decide), if_pos rfl] at hm ⊢
      rw [List.take_succ_cons]
      have hdep : depth < 3 := by omega
      unfold decV
      rw [if_neg c1, if_neg (by decide), if_neg (by omega), if_neg (by decide), if_neg (by decide), if_pos (by decide)]
      cases m with
      | zero => rfl
      | succ m =>
      rw [List.take_succ_cons]
      dsimp only
      have em := toNat_of x.items.length (by omega)
      rw [em, if_neg c6]
      have key : ∀ (l acc : List VT) (n n' : Int) (m : Nat), FitL l → partL n depth l = (0, n') → m < (encL l).length → decL (decV k (depth + 1)) l.length acc ((encL l).take m) n = .error 28 := by
        intro l
        induction l with
        | nil => intro acc n n' m _ _ hm; simp [encL] at hm
        | cons z l ihl =>
          intro acc n n' m hf h hm
          simp only [FitL] at hf
          simp only [partL] at h
          by_cases he : (partV n (depth + 1) z).1 = 0
          · rw [if_neg (fun h => h he)] at h
            have hz : partV n (depth + 1) z = (0, (partV n (depth + 1) z).2) := Prod.ext he rfl
            rw [List.length_cons]
            unfold decL
            rw [encL] at hm ⊢
            by_cases hmz : m < (encV z).length
            · rw [List.take_append_of_le_length (by omega), ih z n (depth + 1) _ m (by omega) hf.1 hz hmz]
            · rw [List.take_append, List.take_of_length_le (by omega), (dec_enc k z n (depth + 1) _ _ (by omega) hf.1 hz).resolve_right (by omega)]
              dsimp only
              exact ihl _ _ n' _ hf.2 h (by rw [List.length_append] at hm; omega)
          · rw [if_pos he] at h
            rw [h] at he; exact absurd rfl he
      rw [key x.items [] (n + 1) n' m hf.2.2.2 hp (by simpa using hm)]
/-! What Decode reads of a list of bytes. -/
def decodeM (l : List UInt8) : Except Int (VT × List UInt8 × Int) := decV 4 0 l 0
theorem checkV_part {x : VT} (h : checkV x = 0) : partV 0 0 x = (0, (partV 0 0 x).2) := Prod.ext h rfl
theorem decode_enc (x : VT) (hf : Fit x) (h : checkV x = 0) (r : List UInt8) : decodeM (encV x ++ r) = .ok (x, r, (partV 0 0 x).2) :=
  (dec_enc 4 x 0 0 _ r (by decide) hf (checkV_part h)).resolve_right (by decide)
theorem decode_is {l : List UInt8} {x : VT} {l' : List UInt8} {n' : Int} (h : decodeM l = .ok (x, l', n')) : checkV x = 0 ∧ l = encV x ++ l' ∧ Fit x := by
  obtain ⟨h1, h2, h3⟩ := dec_is 4 _ _ _ _ _ _ h
  exact ⟨by unfold checkV; rw [h1], h2, h3⟩
theorem decode_pre (x : VT) (hf : Fit x) (h : checkV x = 0) (m : Nat) (hm : m < (encV x).length) : decodeM ((encV x).take m) = .error 28 :=
  dec_pre 4 x 0 0 _ m (by decide) hf (checkV_part h) hm
theorem validV_check (x : VT) : checkV (validV x) = 0 := by
  unfold validV
  by_cases hc : checkV x = 0
  · rw [if_pos hc]; exact hc
  · rw [if_neg hc]
    unfold checkV
    rw [partV_def, noneV_eq]
    simp [VT.kind, VT.int, VT.text, VT.items, partL]
    decide
theorem enc_pos (x : VT) : 0 < (encV x).length := by
  rw [encV_def]
  split
  · simp
  split
  · simp
  split <;> simp
end Go.Proofs.YtjellmblammiaaaDoor
