/- Plain law: the order of two values is one order of all values. -/
import Derived.Test.YtjellmblammiaaaDoorPar
namespace Go.Proofs.YtjellmblammiaaaDoor
open Go
set_option maxRecDepth 100000
def Rg (p : Int) : Prop := p = -1 ∨ p = 0 ∨ p = 1
/-- Three comparisons that hang together: of a and b, b and c, a and c. -/
def Tr3 (p q r : Int) : Prop := (p ≤ 0 → q ≤ 0 → r ≤ 0 ∧ (r = 0 ↔ p = 0 ∧ q = 0)) ∧ (p ≥ 0 → q ≥ 0 → r ≥ 0 ∧ (r = 0 ↔ p = 0 ∧ q = 0))
def lex (p q : Int) : Int := if p ≠ 0 then p else q
theorem lex_rg {p q : Int} (h : Rg p) (k : Rg q) : Rg (lex p q) := by unfold lex; split <;> assumption
theorem lex_tr {p q r p' q' r' : Int} (rp : Rg p) (rq : Rg q) (rr : Rg r) (h : Tr3 p q r) (k : p = 0 → q = 0 → Tr3 p' q' r') : Tr3 (lex p p') (lex q q') (lex r r') := by
  unfold lex
  by_cases hp : p = 0
  · by_cases hq : q = 0
    · have hr : r = 0 := ((h.1 (by omega) (by omega)).2).2 ⟨hp, hq⟩
      simp only [hp, hq, hr, ne_eq, not_true_eq_false, if_false]
      exact k hp hq
    · have hr : ¬ r = 0 := fun e => by
        rcases rq with h1 | h1 | h1
        · exact hq (((h.1 (by omega) (by omega)).2).1 e).2
        · exact hq h1
        · exact hq (((h.2 (by omega) (by omega)).2).1 e).2
      simp only [hp, hq, hr, ne_eq, not_true_eq_false, not_false_eq_true, if_false, if_true]
      refine ⟨fun h1 h2 => ⟨(h.1 (by omega) h2).1, ?_⟩, fun h1 h2 => ⟨(h.2 (by omega) h2).1, ?_⟩⟩
      · exact ⟨fun e => absurd e hr, fun e => absurd e.2 hq⟩
      · exact ⟨fun e => absurd e hr, fun e => absurd e.2 hq⟩
  · by_cases hq : q = 0
    · have hr : ¬ r = 0 := fun e => by
        rcases rp with h1 | h1 | h1
        · exact hp (((h.1 (by omega) (by omega)).2).1 e).1
        · exact hp h1
        · exact hp (((h.2 (by omega) (by omega)).2).1 e).1
      simp only [hp, hq, hr, ne_eq, not_true_eq_false, not_false_eq_true, if_false, if_true]
      refine ⟨fun h1 h2 => ⟨(h.1 h1 (by omega)).1, ?_⟩, fun h1 h2 => ⟨(h.2 h1 (by omega)).1, ?_⟩⟩
      · exact ⟨fun e => absurd e hr, fun e => absurd e.1 hp⟩
      · exact ⟨fun e => absurd e hr, fun e => absurd e.1 hp⟩
    · simp only [hp, hq, ne_eq, not_false_eq_true, if_true]
      refine ⟨fun h1 h2 => ?_, fun h1 h2 => ?_⟩
      · have := h.1 h1 h2
        have hr : ¬ r = 0 := fun e => hp (this.2.1 e).1
        rw [if_pos hr]
        exact ⟨this.1, fun e => absurd e hr, fun e => absurd e.1 hp⟩
      · have := h.2 h1 h2
        have hr : ¬ r = 0 := fun e => hp (this.2.1 e).1
        rw [if_pos hr]
        exact ⟨this.1, fun e => absurd e hr, fun e => absurd e.1 hp⟩
/-- A whole number's place. -/
def cI (a b : Int) : Int := if a ≠ b then sgn (decide (a < b)) else 0
theorem cI_rg (a b : Int) : Rg (cI a b) := by
  unfold cI sgn Rg
  split
  · split <;> simp
  · simp
theorem cI_zero {a b : Int} : cI a b = 0 ↔ a = b := by
  unfold cI sgn
  split
  · split <;> simp [*]
  · simp_all
theorem cI_neg {a b : Int} : cI a b < 0 ↔ a < b := by
  unfold cI sgn
  split
  · split <;> simp_all
  · simp_all
theorem cI_anti (a b : Int) : cI b a = - cI a b := by
  unfold cI sgn
  by_cases h : a = b
  · simp [h]
  · by_cases h' : a < b
    · have : ¬ b < a := by omega
      simp [h, h', this, Ne.symm h]
    · have : b < a := by omega
      simp [h, h', this, Ne.symm h]
theorem tr_of {p q r : Int} (h : p ≤ 0 → q ≤ 0 → r ≤ 0 ∧ (r = 0 ↔ p = 0 ∧ q = 0)) (k : p ≥ 0 → q ≥ 0 → r ≥ 0 ∧ (r = 0 ↔ p = 0 ∧ q = 0)) : Tr3 p q r := ⟨h, k⟩
theorem cI_tr (a b c : Int) : Tr3 (cI a b) (cI b c) (cI a c) := by
  have h1 := @cI_neg a b; have h2 := @cI_neg b c; have h3 := @cI_neg a c
  have z1 := @cI_zero a b; have z2 := @cI_zero b c; have z3 := @cI_zero a c
  refine ⟨fun h k => ?_, fun h k => ?_⟩
  · refine ⟨?_, ?_⟩ <;> omega
  · refine ⟨?_, ?_⟩ <;> omega

/-- Two lists, element by element. -/
def cL {α : Type} (f : α → α → Int) : List α → List α → Int
  | [], [] => 0
  | [], _ :: _ => -1
  | _ :: _, [] => 1
  | x :: r, y :: r' => lex (f x y) (cL f r r')
theorem cL_rg {α : Type} {f : α → α → Int} : ∀ (l l' : List α), (∀ x ∈ l, ∀ y, Rg (f x y)) → Rg (cL f l l')
  | [], [], _ => .inr (.inl rfl)
  | [], _ :: _, _ => .inl rfl
  | _ :: _, [], _ => .inr (.inr rfl)
  | x :: r, y :: r', h => lex_rg (h x (.head _) y) (cL_rg r r' fun z hz => h z (.tail _ hz))
theorem cL_tr {α : Type} {f : α → α → Int} : ∀ (a b c : List α), (∀ x ∈ a, ∀ y z, Rg (f x y) ∧ Rg (f y z) ∧ Tr3 (f x y) (f y z) (f x z)) → Tr3 (cL f a b) (cL f b c) (cL f a c)
  | [], [], [], _ => ⟨fun _ _ => by simp [cL], fun _ _ => by simp [cL]⟩
  | [], [], _ :: _, _ => ⟨fun _ _ => by simp [cL], fun _ h => by simp [cL] at h⟩
  | [], y :: b, [], _ => ⟨fun _ h => by simp [cL] at h, fun h _ => by simp [cL] at h⟩
  | [], y :: b, z :: c, _ => ⟨fun _ _ => by simp [cL], fun h _ => by simp [cL] at h⟩
  | x :: a, [], [], _ => ⟨fun h _ => by simp [cL] at h, fun _ _ => by simp [cL]⟩
  | x :: a, [], z :: c, _ => ⟨fun h _ => by simp [cL] at h, fun _ h => by simp [cL] at h⟩
  | x :: a, y :: b, [], _ => ⟨fun _ h => by simp [cL] at h, fun _ _ => by simp [cL]⟩
  | x :: a, y :: b, z :: c, h => by
    simp only [cL]
    obtain ⟨h1, h2, h3⟩ := h x (.head _) y z
    exact lex_tr h1 h2 (h x (.head _) z z).1 h3 fun _ _ => cL_tr a b c fun u hu => h u (.tail _ hu)
theorem cL_anti {α : Type} {f : α → α → Int} : ∀ (a b : List α), (∀ x ∈ a, ∀ y, f y x = - f x y) → cL f b a = - cL f a b
  | [], [], _ => rfl
  | [], _ :: _, _ => rfl
  | _ :: _, [], _ => rfl
  | x :: a, y :: b, h => by
    simp only [cL, lex]
    rw [h x (.head _) y, cL_anti a b fun z hz => h z (.tail _ hz)]
    by_cases he : f x y = 0
    · simp [he]
    · have : ¬ - f x y = 0 := by omega
      simp [he, this]
/-- A text's place. -/
def cB (a b : List UInt8) : Int := cL (fun x y : UInt8 => cI x.toNat y.toNat) a b
theorem cB_less : ∀ (a b : List UInt8), cB a b = (if a ≠ b then sgn (Op.bytesLess a b) else 0)
  | [], [] => rfl
  | [], _ :: _ => rfl
  | _ :: _, [] => rfl
  | x :: a, y :: b => by
    have ih := cB_less a b
    unfold cB at *
    simp only [cL, lex, ih, Op.bytesLess]
    by_cases hxy : x = y
    · subst hxy
      have : ¬ x < x := by simp [UInt8.lt_iff_toNat_lt]
      simp [cI, this]
    · have hn : ¬ (x.toNat : Int) = y.toNat := fun e => hxy (UInt8.toNat_inj.1 (by omega))
      have h1 : (x == y) = false := by simpa using hxy
      have h2 : ¬ (x :: a) = y :: b := fun e => hxy (List.cons.inj e).1
      rw [if_pos h2]
      simp only [cI, if_pos hn, h1, Bool.false_and, Bool.or_false]
      have h3 : decide ((x.toNat : Int) < y.toNat) = decide (x < y) := by
        rw [decide_eq_decide, UInt8.lt_iff_toNat_lt]; omega
      rw [h3]
      have : ¬ sgn (decide (x < y)) = 0 := by unfold sgn; split <;> simp
      rw [if_pos this]
theorem ordL_cL : ∀ (l l' : List VT), ordL l l' = cL ordV l l'
  | [], [] => by simp [ordL, cL]
  | [], _ :: _ => by simp [ordL, cL]
  | _ :: _, [] => by simp [ordL, cL]
  | x :: r, y :: r' => by simp only [ordL, cL, lex, ordL_cL r r']
theorem lex0 (q : Int) : lex 0 q = q := by simp [lex]
theorem lexn {p : Int} (q : Int) (h : ¬ p = 0) : lex p q = p := by simp [lex, h]
theorem sgn_ne (b : Bool) : ¬ sgn b = 0 := by unfold sgn; split <;> simp
theorem ord_lex (x y : VT) : ordV x y = lex (cI x.kind y.kind) (lex (if x.kind = 1 then cI x.int y.int else 0) (lex (if x.kind = 2 then cB x.text.toList y.text.toList else 0) (cL ordV x.items y.items))) := by
  rw [ordV_def, ordL_cL, cB_less]
  by_cases hk : x.kind = y.kind
  · rw [if_neg (fun h => h hk), cI_zero.2 hk, lex0]
    by_cases h1 : x.kind = 1
    · have h2 : ¬ x.kind = 2 := by omega
      have r2 : (if x.kind = 2 then (if x.text.toList ≠ y.text.toList then sgn (Op.bytesLess x.text.toList y.text.toList) else 0) else 0) = 0 := if_neg h2
      have l2 : (if x.kind = 2 ∧ x.text.toList ≠ y.text.toList then sgn (Op.bytesLess x.text.toList y.text.toList) else cL ordV x.items y.items) = cL ordV x.items y.items := if_neg fun h => h2 h.1
      rw [r2, lex0, l2]
      have r1 : (if x.kind = 1 then cI x.int y.int else 0) = cI x.int y.int := if_pos h1
      rw [r1]
      by_cases hi : x.int = y.int
      · rw [if_neg (fun h => h.2 hi), cI_zero.2 hi, lex0]
      · have hc : cI x.int y.int = sgn (decide (x.int < y.int)) := by unfold cI; rw [if_pos hi]
        rw [if_pos ⟨h1, hi⟩, hc, lexn _ (sgn_ne _)]
    · rw [if_neg (fun h => h1 h.1), if_neg h1, lex0]
      by_cases h2 : x.kind = 2
      · rw [if_pos h2]
        by_cases ht : x.text.toList = y.text.toList
        · rw [if_neg (fun h => h.2 ht), if_neg (fun h => h ht), lex0]
        · rw [if_pos ⟨h2, ht⟩, if_pos ht, lexn _ (sgn_ne _)]
      · rw [if_neg (fun h => h2 h.1), if_neg h2, lex0]
  · have hc : cI x.kind y.kind = sgn (decide (x.kind < y.kind)) := by unfold cI; rw [if_pos hk]
    rw [if_pos hk, hc, lexn _ (sgn_ne _)]

theorem rg0 : Rg 0 := .inr (.inl rfl)
theorem tr0 : Tr3 0 0 0 := ⟨fun _ _ => by simp, fun _ _ => by simp⟩
theorem cB_rg (a b : List UInt8) : Rg (cB a b) := cL_rg a b fun x _ y => cI_rg _ _
theorem cB_tr (a b c : List UInt8) : Tr3 (cB a b) (cB b c) (cB a c) := cL_tr a b c fun x _ y z => ⟨cI_rg _ _, cI_rg _ _, cI_tr _ _ _⟩
theorem cB_anti (a b : List UInt8) : cB b a = - cB a b := cL_anti a b fun x _ y => cI_anti _ _
theorem items_lt {x z : VT} (hz : z ∈ x.items) : SizeOf.sizeOf z < SizeOf.sizeOf x := by
  obtain ⟨i, hi⟩ := List.getElem?_of_mem hz
  exact VT.size_lt hi
theorem ord_rg (k : Nat) : ∀ (x y : VT), SizeOf.sizeOf x < k → Rg (ordV x y) := by
  induction k with
  | zero => intro x y h; omega
  | succ k ih =>
    intro x y hk
    rw [ord_lex]
    refine lex_rg (cI_rg _ _) (lex_rg ?_ (lex_rg ?_ (cL_rg _ _ fun z hz u => ih z u (by have := items_lt hz; omega))))
    · split
      · exact cI_rg _ _
      · exact rg0
    · split
      · exact cB_rg _ _
      · exact rg0
theorem ordV_rg (x y : VT) : Rg (ordV x y) := ord_rg _ x y (Nat.lt_succ_self _)
theorem ord_tr (k : Nat) : ∀ (x y z : VT), SizeOf.sizeOf x < k → Tr3 (ordV x y) (ordV y z) (ordV x z) := by
  induction k with
  | zero => intro x y z h; omega
  | succ k ih =>
    intro x y z hk
    rw [ord_lex x y, ord_lex y z, ord_lex x z]
    have gI : ∀ (b : Prop) [Decidable b] (i j : Int), Rg (if b then cI i j else 0) := fun b _ i j => by
      split
      · exact cI_rg _ _
      · exact rg0
    have gB : ∀ (b : Prop) [Decidable b] (i j : List UInt8), Rg (if b then cB i j else 0) := fun b _ i j => by
      split
      · exact cB_rg _ _
      · exact rg0
    refine lex_tr (cI_rg _ _) (cI_rg _ _) (cI_rg _ _) (cI_tr _ _ _) fun e1 e2 => ?_
    have e1 := cI_zero.1 e1
    have e2 := cI_zero.1 e2
    refine lex_tr (gI _ _ _) (gI _ _ _) (gI _ _ _) ?_ fun _ _ => lex_tr (gB _ _ _) (gB _ _ _) (gB _ _ _) ?_ fun _ _ => ?_
    · rw [e1, e2]
      split
      · exact cI_tr _ _ _
      · exact tr0
    · rw [e1, e2]
      split
      · exact cB_tr _ _ _
      · exact tr0
    · exact cL_tr _ _ _ fun u hu y z => ⟨ordV_rg _ _, ordV_rg _ _, ih u y z (by have := items_lt hu; omega)⟩
theorem ord_anti (k : Nat) : ∀ (x y : VT), SizeOf.sizeOf x < k → ordV y x = - ordV x y := by
  induction k with
  | zero => intro x y h; omega
  | succ k ih =>
    intro x y hk
    rw [ord_lex y x, ord_lex x y]
    have hl : ∀ {p q p' q' : Int}, p' = - p → (p = 0 → q' = - q) → lex p' q' = - lex p q := fun {p q p' q'} h1 h2 => by
      unfold lex
      by_cases hp : p = 0
      · have : p' = 0 := by omega
        simp [hp, this, h2 hp]
      · have : ¬ p' = 0 := by omega
        simp [hp, this, h1]
    refine hl (cI_anti _ _) fun e => ?_
    have e := cI_zero.1 e
    refine hl ?_ fun _ => hl ?_ fun _ => cL_anti _ _ fun u hu v => ih u v (by have := items_lt hu; omega)
    · rw [e]
      split
      · exact cI_anti _ _
      · rfl
    · rw [e]
      split
      · exact cB_anti _ _
      · rfl
theorem cmp_rg (x y : VT) : Rg (cmpV x y) := ordV_rg _ _
theorem cmp_anti (x y : VT) : cmpV y x = - cmpV x y := ord_anti _ _ _ (Nat.lt_succ_self _)
theorem cmp_tr (x y z : VT) : Tr3 (cmpV x y) (cmpV y z) (cmpV x z) := ord_tr _ _ _ _ (Nat.lt_succ_self _)

/-! ### Valid values -/
mutual
/-- Each field that isn't its kind's is empty; the limits. -/
def Good : VT → Prop
  | .mk k i s l => 0 ≤ k ∧ k ≤ 3 ∧ (k ≠ 1 → i = 0) ∧ (k ≠ 2 → s.toList = []) ∧ (k ≠ 3 → l = []) ∧ s.size ≤ 24 ∧ l.length ≤ 6 ∧ GoodL l
def GoodL : List VT → Prop
  | [] => True
  | x :: r => Good x ∧ GoodL r
end
theorem Good_def (x : VT) : Good x = (0 ≤ x.kind ∧ x.kind ≤ 3 ∧ (x.kind ≠ 1 → x.int = 0) ∧ (x.kind ≠ 2 → x.text.toList = []) ∧ (x.kind ≠ 3 → x.items = []) ∧ x.text.size ≤ 24 ∧ x.items.length ≤ 6 ∧ GoodL x.items) := by cases x; simp only [Good]; rfl
theorem GoodL_mem {l : List VT} (h : GoodL l) : ∀ x ∈ l, Good x := by
  induction l with
  | nil => intro x hx; cases hx
  | cons y r ih =>
    simp only [GoodL] at h
    intro x hx
    rcases List.mem_cons.1 hx with rfl | hx
    · exact h.1
    · exact ih h.2 x hx
theorem good_of (k : Nat) : ∀ (x : VT) (n depth : Int), SizeOf.sizeOf x < k → (partV n depth x).1 = 0 → Good x := by
  induction k with
  | zero => intro x n depth h; omega
  | succ k ih =>
    intro x n depth hk
    have key : ∀ (l : List VT) (n : Int), (∀ z ∈ l, SizeOf.sizeOf z < k) → (partL n depth l).1 = 0 → GoodL l := by
      intro l
      induction l with
      | nil => intro n _ _; simp [GoodL]
      | cons z r ihl =>
        intro n hz
        simp only [partL, GoodL]
        by_cases he : (partV n (depth + 1) z).1 = 0
        · rw [if_neg (fun h => h he)]
          intro h
          exact ⟨ih z n (depth + 1) (hz z (.head _)) he, ihl _ (fun u hu => hz u (.tail _ hu)) h⟩
        · rw [if_pos he]; exact fun h => absurd h he
    rw [partV_def, Good_def]
    by_cases h12 : n + 1 > 12
    · rw [if_pos h12]; intro h; simp at h
    rw [if_neg h12]
    by_cases c1 : x.kind < 0 ∨ x.kind > 3
    · rw [if_pos c1]; intro h; simp at h
    rw [if_neg c1]
    by_cases c2 : (x.int ≠ 0 ∧ x.kind ≠ 1) ∨ (x.text.toList ≠ [] ∧ x.kind ≠ 2) ∨ (0 < x.items.length ∧ x.kind ≠ 3)
    · rw [if_pos c2]; intro h; simp at h
    rw [if_neg c2]
    by_cases c3 : x.kind = 3 ∧ depth ≥ 3
    · rw [if_pos c3]; intro h; simp at h
    rw [if_neg c3]
    by_cases c4 : x.text.size > 24
    · rw [if_pos c4]; intro h; simp at h
    rw [if_neg c4]
    by_cases c5 : x.items.length > 6
    · rw [if_pos c5]; intro h; simp at h
    rw [if_neg c5]
    intro h
    refine ⟨by omega, by omega, fun h1 => Decidable.byContradiction fun h2 => c2 (.inl ⟨h2, h1⟩), fun h1 => Decidable.byContradiction fun h2 => c2 (.inr (.inl ⟨h2, h1⟩)), fun h1 => ?_, by omega, by omega, key x.items (n + 1) (fun z hz => by have := items_lt hz; omega) h⟩
    cases hl : x.items with
    | nil => rfl
    | cons a r => exact absurd (.inr (.inr ⟨by rw [hl]; simp, h1⟩)) c2
theorem validV_good (x : VT) : Good (validV x) := by
  unfold validV
  by_cases hc : checkV x = 0
  · rw [if_pos hc]; exact good_of _ x 0 0 (Nat.lt_succ_self _) hc
  · rw [if_neg hc, Good_def]
    exact ⟨by decide, by decide, fun _ => rfl, fun _ => bytesL_nil, fun _ => rfl, by decide, by decide, trivial⟩
theorem lex_zero {p q : Int} : lex p q = 0 ↔ p = 0 ∧ q = 0 := by
  unfold lex
  by_cases h : p = 0 <;> simp [h]
theorem cB_zero : ∀ (a b : List UInt8), cB a b = 0 ↔ a = b := by
  intro a b
  rw [cB_less]
  by_cases h : a = b
  · simp [h]
  · simp [h, sgn_ne]
theorem ord_same (k : Nat) : ∀ (x y : VT), SizeOf.sizeOf x < k → Good x → Good y → (ordV x y = 0 ↔ sameV x y = true) := by
  induction k with
  | zero => intro x y h; omega
  | succ k ih =>
    intro x y hk hx hy
    have key : ∀ (a b : List VT), (∀ z ∈ a, SizeOf.sizeOf z < k) → GoodL a → GoodL b → (cL ordV a b = 0 ↔ a.length = b.length ∧ sameL a b = true) := by
      intro a
      induction a with
      | nil => intro b _ _ _; cases b <;> simp [cL, sameL]
      | cons u r iha =>
        intro b hz ha hb
        cases b with
        | nil => simp [cL]
        | cons v t =>
          simp only [GoodL] at ha hb
          simp only [cL, sameL, lex_zero, List.length_cons, Bool.and_eq_true]
          rw [ih u v (hz u (.head _)) ha.1 hb.1, iha t (fun z hz' => hz z (.tail _ hz')) ha.2 hb.2]
          constructor
          · rintro ⟨h1, h2, h3⟩; exact ⟨by omega, h1, h3⟩
          · rintro ⟨h1, h2, h3⟩; exact ⟨h2, by omega, h3⟩
    rw [Good_def] at hx hy
    obtain ⟨_, _, xi, xs, xl, _, _, xg⟩ := hx
    obtain ⟨_, _, yi, ys, yl, _, _, yg⟩ := hy
    rw [ord_lex, sameV_def, lex_zero, lex_zero, lex_zero, cI_zero, key _ _ (fun z hz => by have := items_lt hz; omega) xg yg]
    simp only [Bool.and_eq_true, beq_iff_eq]
    constructor
    · rintro ⟨h1, h2, h3, h4, h5⟩
      refine ⟨⟨⟨h1, ?_⟩, ?_⟩, h4, h5⟩
      · by_cases e : x.kind = 1
        · rw [if_pos e] at h2; exact cI_zero.1 h2
        · rw [xi e, yi (by rw [← h1]; exact e)]
      · by_cases e : x.kind = 2
        · rw [if_pos e] at h3; exact (cB_zero _ _).1 h3
        · rw [xs e, ys (by rw [← h1]; exact e)]
    · rintro ⟨⟨⟨h1, h2⟩, h3⟩, h4, h5⟩
      refine ⟨h1, ?_, ?_, h4, h5⟩
      · rw [h2, cI_zero.2 rfl, ite_self]
      · rw [h3, (cB_zero _ _).2 rfl, ite_self]
theorem cmp_same (x y : VT) : cmpV x y = 0 ↔ sameV (validV x) (validV y) = true := ord_same _ _ _ (Nat.lt_succ_self _) (validV_good x) (validV_good y)
end Go.Proofs.YtjellmblammiaaaDoor
