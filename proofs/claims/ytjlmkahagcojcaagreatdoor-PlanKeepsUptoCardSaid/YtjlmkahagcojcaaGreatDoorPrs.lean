/- Plain law: valid values, their lawful texts; a lawful text between blanks is parsed. -/
import Derived.Test.YtjlmkahagcojcaaGreatDoorRdx
import Derived.Test.YtjlmkahagcojcaaGreatDoorFit
import Derived.Test.YtjlmkahagcojcaaGreatDoorRdt
import Derived.Test.YtjlmkahagcojcaaGreatDoorRvl
import Derived.Test.YtjlmkahagcojcaaGreatDoorRdi
import Derived.Test.YtjlmkahagcojcaaGreatDoorRdy
namespace Go.Proofs.YtjlmkahagcojcaaGreatDoor.V
open Go Tr
set_option maxRecDepth 100000
theorem items_lt {x z : VT} (hz : z ∈ x.items) : SizeOf.sizeOf z < SizeOf.sizeOf x := by
  obtain ⟨i, hi⟩ := List.getElem?_of_mem hz
  exact VT.size_lt hi
mutual
/-- Each field that isn't its kind's is empty; the limits. -/
def Good : VT → Prop
  | .mk k i s l => 0 ≤ k ∧ k ≤ 3 ∧ (k ≠ 1 → i = 0) ∧ (k ≠ 2 → s.toList = []) ∧ (k ≠ 3 → l = []) ∧ s.size ≤ 24 ∧ l.length ≤ 6 ∧ GoodL l
def GoodL : List VT → Prop
  | [] => True
  | x :: r => Good x ∧ GoodL r
end
theorem Good_def (x : VT) : Good x = (0 ≤ x.kind ∧ x.kind ≤ 3 ∧ (x.kind ≠ 1 → x.int = 0) ∧ (x.kind ≠ 2 → x.text.toList = []) ∧ (x.kind ≠ 3 → x.items = []) ∧ x.text.size ≤ 24 ∧ x.items.length ≤ 6 ∧ GoodL x.items) := by cases x; simp only [Good]; rfl
theorem GoodL_mem {l : List VT} (h : GoodL l) : ∀ x ∈ l, Good x := by
  induction l with
  | nil => intro x hx; cases hx
  | cons y r ih =>
    simp only [GoodL] at h
    intro x hx
    rcases List.mem_cons.1 hx with rfl | hx
    · exact h.1
    · exact ih h.2 x hx
theorem good_of (k : Nat) : ∀ (x : VT) (n depth : Int), SizeOf.sizeOf x < k → (partV n depth x).1 = 0 → Good x := by
  induction k with
  | zero => intro x n depth h; omega
  | succ k ih =>
    intro x n depth hk
    have key : ∀ (l : List VT) (n : Int), (∀ z ∈ l, SizeOf.sizeOf z < k) → (partL n depth l).1 = 0 → GoodL l := by
      intro l
      induction l with
      | nil => intro n _ _; simp [GoodL]
      | cons z r ihl =>
        intro n hz
        simp only [partL, GoodL]
        by_cases he : (partV n (depth + 1) z).1 = 0
        · rw [if_neg (fun h => h he)]
          intro h
          exact ⟨ih z n (depth + 1) (hz z (.head _)) he, ihl _ (fun u hu => hz u (.tail _ hu)) h⟩
        · rw [if_pos he]; exact fun h => absurd h he
    rw [partV_def, Good_def]
    by_cases h12 : n + 1 > 12
    · rw [if_pos h12]; intro h; simp at h
    rw [if_neg h12]
    by_cases c1 : x.kind < 0 ∨ x.kind > 3
    · rw [if_pos c1]; intro h; simp at h
    rw [if_neg c1]
    by_cases c2 : (x.int ≠ 0 ∧ x.kind ≠ 1) ∨ (x.text.toList ≠ [] ∧ x.kind ≠ 2) ∨ (0 < x.items.length ∧ x.kind ≠ 3)
    · rw [if_pos c2]; intro h; simp at h
    rw [if_neg c2]
    by_cases c3 : x.kind = 3 ∧ depth ≥ 3
    · rw [if_pos c3]; intro h; simp at h
    rw [if_neg c3]
    by_cases c4 : x.text.size > 24
    · rw [if_pos c4]; intro h; simp at h
    rw [if_neg c4]
    by_cases c5 : x.items.length > 6
    · rw [if_pos c5]; intro h; simp at h
    rw [if_neg c5]
    intro h
    refine ⟨by omega, by omega, fun h1 => Decidable.byContradiction fun h2 => c2 (.inl ⟨h2, h1⟩), fun h1 => Decidable.byContradiction fun h2 => c2 (.inr (.inl ⟨h2, h1⟩)), fun h1 => ?_, by omega, by omega, key x.items (n + 1) (fun z hz => by have := items_lt hz; omega) h⟩
    cases hl : x.items with
    | nil => rfl
    | cons a r => exact absurd (.inr (.inr ⟨by rw [hl]; simp, h1⟩)) c2
theorem validV_good (x : VT) : Good (validV x) := by
  unfold validV
  by_cases hc : checkV x = 0
  · rw [if_pos hc]; exact good_of _ x 0 0 (Nat.lt_succ_self _) hc
  · rw [if_neg hc, Good_def]
    exact ⟨by decide, by decide, fun _ => rfl, fun _ => bytesL_nil, fun _ => rfl, by decide, by decide, trivial⟩
theorem bytes_ext {s t : ByteArray} (h : s.toList = t.toList) : s = t := by
  rw [ByteArray.toList_eq, ByteArray.toList_eq] at h
  cases s; cases t
  simpa using h
theorem checkV_part {x : VT} (h : checkV x = 0) : partV 0 0 x = (0, (partV 0 0 x).2) := Prod.ext h rfl
theorem noneV_eq : noneV = .mk 0 0 (bytesL []) [] := rfl
theorem validV_check (x : VT) : checkV (validV x) = 0 := by
  unfold validV
  by_cases hc : checkV x = 0
  · rw [if_pos hc]; exact hc
  · rw [if_neg hc]
    unfold checkV
    rw [partV_def, noneV_eq]
    simp [VT.kind, VT.int, VT.text, VT.items, partL]
    decide
theorem itoa_bytes (i : Int) : ∀ c ∈ Lib.itoa i, c = 45 ∨ (48 ≤ c.toNat ∧ c.toNat ≤ 57) := by
  intro c hc
  unfold Lib.itoa at hc
  split at hc
  · rcases List.mem_cons.1 hc with e | e
    · exact .inl e
    · exact .inr (dec_digit _ _ (Nat.lt_succ_self _) c e)
  · exact .inr (dec_digit _ _ (Nat.lt_succ_self _) c hc)
theorem dec_ne (u : Nat) : Lib.decDigits u ≠ [] := by
  rw [Lib.decDigits]
  split
  · simp
  · simp
theorem itoa_ne (i : Int) : Lib.itoa i ≠ [] := by
  unfold Lib.itoa
  split
  · simp
  · exact dec_ne _
end Go.Proofs.YtjlmkahagcojcaaGreatDoor.V
namespace Go.Proofs.YtjlmkahagcojcaaGreatDoor.V
open Go Tr
open Go.Lib (decodeL)
set_option maxRecDepth 100000
theorem escM_len {l : List UInt8} {b : UInt8} {r : List UInt8} (h : escM l = some (b, r)) : r.length ≤ l.length := by
  have t1 : l.tail.length ≤ l.length := by simp
  have t2 : l.tail.tail.tail.length ≤ l.length := by simp; omega
  unfold escM at h
  split at h
  · cases h; exact t1
  split at h
  · cases h; exact t1
  split at h
  · cases h; exact t1
  split at h
  · cases h; exact t1
  split at h
  · split at h
    · cases h; exact t2
    · cases h
  · cases h
theorem pk_ne {l : List UInt8} (h : pk l ≠ 0) : 0 < l.length := by
  cases l with
  | nil => exact absurd rfl h
  | cons c t => simp
theorem readQ_len : ∀ (n : Nat) (acc l : List UInt8) (v : List UInt8 × List UInt8), readQ n acc l = some v → readQ (l.length + 1) acc l = some v
  | 0, _, _, _, h => by simp [readQ] at h
  | n + 1, acc, l, v, h => by
    by_cases h1 : pk l = 34
    · rw [readQ_end _ _ _ h1] at h ⊢; exact h
    by_cases h2 : pk l = 92
    · rw [readQ_back _ _ _ h2] at h ⊢
      have hl := pk_ne (l := l) (by omega)
      cases he : escM l.tail with
      | none => rw [he] at h; cases h
      | some y =>
        obtain ⟨b, r⟩ := y
        rw [he] at h
        have hr := escM_len he
        have ih := readQ_len n _ _ _ h
        have ht : l.tail.length = l.length - 1 := by simp
        obtain ⟨j, hj⟩ : ∃ j, l.length = r.length + 1 + j := ⟨l.length - (r.length + 1), by omega⟩
        show readQ l.length (acc ++ [b]) r = some v
        rw [hj]
        exact readQ_up _ j _ _ _ ih
    by_cases h3 : 32 ≤ pk l ∧ pk l ≤ 126
    · rw [readQ_plain _ _ _ h1 h2 h3] at h ⊢
      have hl := pk_ne (l := l) (by omega)
      have ih := readQ_len n _ _ _ h
      have ht : l.tail.length + 1 = l.length := by simp; omega
      rw [ht] at ih
      exact ih
    · rw [readQ_rune _ _ _ h1 h2 h3] at h ⊢
      split at h
      · cases h
      · rename_i hc
        rw [if_neg hc]
        have hl := pk_ne (l := l) (by omega)
        have ih := readQ_len n _ _ _ h
        have ht : (l.drop (decodeL l).2).length = l.length - (decodeL l).2 := List.length_drop
        obtain ⟨j, hj⟩ : ∃ j, l.length = (l.drop (decodeL l).2).length + 1 + j := ⟨l.length - ((l.drop (decodeL l).2).length + 1), by omega⟩
        rw [hj]
        exact readQ_up _ j _ _ _ ih
def Bl (b : List UInt8) : Prop := ∀ c ∈ b, isBl c = true
theorem bl_nil : Bl [] := fun _ h => by cases h
theorem bl_app {a b : List UInt8} (h : Bl a) (k : Bl b) : Bl (a ++ b) := fun c hc => (List.mem_append.1 hc).elim (h c) (k c)
theorem blanks_app : ∀ {b : List UInt8} (z : List UInt8), Bl b → blanksM (b ++ z) = blanksM z
  | [], _, _ => rfl
  | c :: b, z, h => by
    have hc := h c (.head _)
    show List.dropWhile isBl (c :: (b ++ z)) = _
    rw [List.dropWhile_cons, if_pos hc]
    exact blanks_app z fun d hd => h d (.tail _ hd)
theorem blanks_stop {c : UInt8} {z : List UInt8} (h : isBl c = false) : blanksM (c :: z) = c :: z := by
  show List.dropWhile isBl (c :: z) = _
  rw [List.dropWhile_cons, if_neg (by rw [h]; decide)]
theorem bl_pk {b z : List UInt8} (h : Bl b) (hz : ¬ (48 ≤ pk z ∧ pk z ≤ 57)) : ¬ (48 ≤ pk (b ++ z) ∧ pk (b ++ z) ≤ 57) := by
  cases b with
  | nil => exact hz
  | cons c b =>
    have hc := h c (.head _)
    simp only [isBl, Bool.or_eq_true, decide_eq_true_eq] at hc
    show ¬ (48 ≤ c.toNat ∧ c.toNat ≤ 57)
    omega
/-- What stands between the quotes. -/
def Bd (b s : List UInt8) : Prop := ∀ r acc, ∃ n, readQ n acc (b ++ 34 :: r) = some (acc ++ s, r)
mutual
/-- t is a lawful text of x. -/
def Fm : VT → List UInt8 → Prop
  | .mk k i s l, t => (k = 0 ∧ t = [110, 111, 110, 101]) ∨ (k = 1 ∧ t = Lib.itoa i) ∨ (k = 2 ∧ ∃ b, t = 34 :: (b ++ [34]) ∧ Bd b s.data.toList) ∨
    (k = 3 ∧ ∃ b0 body, Bl b0 ∧ t = 91 :: (b0 ++ body) ∧ ((l = [] ∧ body = [93]) ∨ FmI l body))
def FmI : List VT → List UInt8 → Prop
  | [], _ => False
  | x :: r, t => ∃ tx b1 rest, Fm x tx ∧ Bl b1 ∧ t = tx ++ (b1 ++ rest) ∧ ((r = [] ∧ rest = [93]) ∨ ∃ b2 t', Bl b2 ∧ rest = 44 :: (b2 ++ t') ∧ FmI r t')
end
theorem Fm_def (x : VT) (t : List UInt8) : Fm x t = ((x.kind = 0 ∧ t = [110, 111, 110, 101]) ∨ (x.kind = 1 ∧ t = Lib.itoa x.int) ∨ (x.kind = 2 ∧ ∃ b, t = 34 :: (b ++ [34]) ∧ Bd b x.text.data.toList) ∨
    (x.kind = 3 ∧ ∃ b0 body, Bl b0 ∧ t = 91 :: (b0 ++ body) ∧ ((x.items = [] ∧ body = [93]) ∨ FmI x.items body))) := by cases x; simp only [Fm]; rfl
theorem itoa_first (i : Int) : ∃ c t, Lib.itoa i = c :: t ∧ (c = 45 ∨ (48 ≤ c.toNat ∧ c.toNat ≤ 57)) := by
  cases hl : Lib.itoa i with
  | nil => exact absurd hl (itoa_ne _)
  | cons c t => exact ⟨c, t, rfl, itoa_bytes i c (by rw [hl]; exact .head _)⟩
theorem Fm_first {x : VT} {t : List UInt8} (h : Fm x t) : ∃ c t', t = c :: t' ∧ begs c.toNat = true := by
  rw [Fm_def] at h
  rcases h with ⟨_, rfl⟩ | ⟨_, rfl⟩ | ⟨_, b, rfl, _⟩ | ⟨_, b0, body, _, rfl, _⟩
  · exact ⟨_, _, rfl, by decide⟩
  · obtain ⟨c, t, e, hc⟩ := itoa_first x.int
    refine ⟨c, t, e, ?_⟩
    unfold begs
    rcases hc with rfl | hc
    · decide
    · exact decide_eq_true (by omega)
  · exact ⟨_, _, rfl, by decide⟩
  · exact ⟨_, _, rfl, by decide⟩
theorem begs_not {c : UInt8} (h : begs c.toNat = true) : isBl c = false ∧ c.toNat ≠ 93 ∧ c.toNat ≠ 44 := by
  unfold begs at h
  have h := of_decide_eq_true h
  refine ⟨?_, by omega, by omega⟩
  unfold isBl
  simp only [Bool.or_eq_false_iff, decide_eq_false_iff_not]
  omega
/-! numerals -/
theorem dig_is (c : UInt8) : isDig c = true ↔ 48 ≤ c.toNat ∧ c.toNat ≤ 57 := by simp [isDig]
theorem tw_app : ∀ (ds r : List UInt8), (∀ c ∈ ds, isDig c = true) → ¬ (48 ≤ pk r ∧ pk r ≤ 57) → (ds ++ r).takeWhile isDig = ds ∧ (ds ++ r).dropWhile isDig = r
  | [], r, _, h => by
    rcases dig_pk r with ⟨h1, h2, _⟩ | ⟨c, t, _, hh, _⟩
    · exact ⟨h1, h2⟩
    · exact absurd hh h
  | c :: ds, r, hd, h => by
    have hc := hd c (.head _)
    obtain ⟨h1, h2⟩ := tw_app ds r (fun c hc => hd c (.tail _ hc)) h
    rw [List.cons_append, List.takeWhile_cons, List.dropWhile_cons, if_pos hc, if_pos hc, h1]
    exact ⟨rfl, h2⟩
theorem dec_head : ∀ (k u : Nat), u < k → 0 < u → ∃ c t, Lib.decDigits u = c :: t ∧ 49 ≤ c.toNat ∧ c.toNat ≤ 57
  | 0, _, h, _ => by omega
  | k + 1, u, hk, hu => by
    rw [Lib.decDigits]
    by_cases h : u < 10
    · rw [dif_pos h]
      have : (UInt8.ofNat (48 + u)).toNat = 48 + u := toNat_of _ (by omega)
      exact ⟨_, [], rfl, by omega, by omega⟩
    · rw [dif_neg h]
      obtain ⟨c, t, e, h1, h2⟩ := dec_head k (u / 10) (by omega) (by omega)
      exact ⟨c, t ++ [UInt8.ofNat (48 + u % 10)], by rw [e]; rfl, h1, h2⟩
theorem dec_digs (u : Nat) : ∀ c ∈ Lib.decDigits u, isDig c = true := fun c hc => (dig_is c).2 (dec_digit _ u (Nat.lt_succ_self _) c hc)
theorem rdig_dec (neg : Bool) (u : Nat) (hu : 0 < u) (r : List UInt8) (hr : ¬ (48 ≤ pk r ∧ pk r ≤ 57)) (v : Int) (hv : numM neg (Lib.decDigits u) = some v) : rdigM neg (Lib.decDigits u ++ r) = some (v, r) := by
  obtain ⟨c, t, e, h1, h2⟩ := dec_head _ u (Nat.lt_succ_self _) hu
  have hp : pk (Lib.decDigits u ++ r) = c.toNat := by rw [e]; rfl
  obtain ⟨a1, a2⟩ := tw_app (Lib.decDigits u) r (dec_digs u) hr
  unfold rdigM
  rw [if_neg (by omega), a1, a2, if_neg (by rw [e]; simp), hv]
theorem rint_itoa (i : Int) (hi : Rng i) (r : List UInt8) (hr : ¬ (48 ≤ pk r ∧ pk r ≤ 57)) : rintM (Lib.itoa i ++ r) = some (i, r) := by
  unfold Rng at hi
  unfold Lib.itoa rintM
  by_cases h : i < 0
  · rw [if_pos h, if_pos (show pk (45 :: Lib.decDigits i.natAbs ++ r) = 45 from rfl)]
    refine rdig_dec true i.natAbs (by omega) r hr i ?_
    unfold numM
    rw [if_pos rfl, dval_dec _ _ (Nat.lt_succ_self _), if_pos (by omega)]
    congr 1; omega
  · rw [if_neg h]
    by_cases h0 : i = 0
    · subst h0
      have e : Lib.decDigits (0 : Int).toNat = [48] := by rw [Lib.decDigits]; rfl
      rw [e]
      rfl
    · obtain ⟨c, t, e, h1, h2⟩ := dec_head _ i.toNat (Nat.lt_succ_self _) (by omega)
      have hp : pk (Lib.decDigits i.toNat ++ r) = c.toNat := by rw [e]; rfl
      rw [if_neg (by omega)]
      refine rdig_dec false i.toNat (by omega) r hr i ?_
      unfold numM
      rw [if_neg (by decide), dval_dec _ _ (Nat.lt_succ_self _), if_pos (by omega)]
      congr 1; omega
theorem rtext_bd {b : List UInt8} {s : ByteArray} (h : Bd b s.data.toList) (hs : s.size ≤ 24) (r : List UInt8) : rtextM (b ++ 34 :: r) = some (s, r) := by
  obtain ⟨n, hn⟩ := h r []
  unfold rtextM
  rw [readQ_len _ _ _ _ hn]
  dsimp only
  rw [List.nil_append, if_neg (by simp; omega)]
/-- A lawful text is read, whatever follows that is no digit. -/
theorem form_read (k : Nat) : ∀ (x : VT) (t : List UInt8) (n depth n' : Int) (r : List UInt8), 3 - depth < (k : Int) → Fit x → Fm x t → partV n depth x = (0, n') → ¬ (48 ≤ pk r ∧ pk r ≤ 57) → rdV k depth (t ++ r) n = some (x, r, n') ∨ k = 0 := by
  induction k with
  | zero => intro x t n depth n' r _ _ _ _ _; exact .inr rfl
  | succ k ih =>
    intro x t n depth n' r hd hf hfm hp hr
    left
    have fin : ∀ y : VT, x.kind = y.kind → x.int = y.int → x.text.toList = y.text.toList → x.items = y.items → y = x := fun y h1 h2 h3 h4 => by
      have ht := bytes_ext h3
      cases x; cases y
      simp only [VT.kind, VT.int, VT.text, VT.items] at *
      rw [h1, h2, ht, h4]
    rw [partV_def] at hp
    by_cases c1 : n + 1 > 12
    · rw [if_pos c1] at hp; simp at hp
    rw [if_neg c1] at hp
    by_cases c2 : x.kind < 0 ∨ x.kind > 3
    · rw [if_pos c2] at hp; simp at hp
    rw [if_neg c2] at hp
    by_cases c3 : (x.int ≠ 0 ∧ x.kind ≠ 1) ∨ (x.text.toList ≠ [] ∧ x.kind ≠ 2) ∨ (0 < x.items.length ∧ x.kind ≠ 3)
    · rw [if_pos c3] at hp; simp at hp
    rw [if_neg c3] at hp
    by_cases c4 : x.kind = 3 ∧ depth ≥ 3
    · rw [if_pos c4] at hp; simp at hp
    rw [if_neg c4] at hp
    by_cases c5 : x.text.size > 24
    · rw [if_pos c5] at hp; simp at hp
    rw [if_neg c5] at hp
    by_cases c6 : x.items.length > 6
    · rw [if_pos c6] at hp; simp at hp
    rw [if_neg c6] at hp
    have ei : x.kind ≠ 1 → x.int = 0 := fun h => Decidable.byContradiction fun h' => c3 (.inl ⟨h', h⟩)
    have es : x.kind ≠ 2 → x.text.toList = [] := fun h => Decidable.byContradiction fun h' => c3 (.inr (.inl ⟨h', h⟩))
    have el : x.kind ≠ 3 → x.items = [] := fun h => by
      cases hl : x.items with
      | nil => rfl
      | cons a l => exact absurd (.inr (.inr ⟨by rw [hl]; simp, h⟩)) c3
    have nob : (bytesL []).toList = [] := bytesL_nil
    have hn1 : x.kind ≠ 3 → n' = n + 1 := fun h => by
      rw [el h] at hp
      simp only [partL, Prod.mk.injEq, true_and] at hp
      exact hp.symm
    rw [Fit_def] at hf
    rw [rdV_succ]
    rw [Fm_def] at hfm
    rcases hfm with ⟨e, rfl⟩ | ⟨e, rfl⟩ | ⟨e, b, rfl, hb⟩ | ⟨e, b0, body, hb0, rfl, hbody⟩
    · have hpk : pk ([110, 111, 110, 101] ++ r) = 110 := rfl
      rw [hpk, if_neg (by decide), if_neg c1, if_pos rfl, if_pos (show List.take 4 ([110, 111, 110, 101] ++ r) = [110, 111, 110, 101] from rfl), hn1 (by omega)]
      rw [fin noneV e (ei (by omega)) ((es (by omega)).trans nob.symm) (el (by omega))]
      rfl
    · obtain ⟨c, t, ec, hc⟩ := itoa_first x.int
      have hpk : pk (Lib.itoa x.int ++ r) = c.toNat := by rw [ec]; rfl
      have hc' : c.toNat = 45 ∨ (48 ≤ c.toNat ∧ c.toNat ≤ 57) := hc.imp (fun h => by rw [h]; rfl) id
      rw [hpk, if_neg (by unfold begs; rw [decide_eq_true (by omega)]; decide), if_neg c1, if_neg (by omega), if_neg (by omega), if_neg (by omega), rint_itoa _ hf.2.1 r hr]
      dsimp only
      rw [hn1 (by omega), fin (.mk 1 x.int (bytesL []) []) e rfl ((es (by omega)).trans nob.symm) (el (by omega))]
    · have hpk : pk (34 :: (b ++ [34]) ++ r) = 34 := rfl
      have htl : (34 :: (b ++ [34]) ++ r).tail = b ++ 34 :: r := by simp
      rw [hpk, if_neg (by decide), if_neg c1, if_neg (by decide), if_pos rfl, htl, rtext_bd hb (by omega) r]
      dsimp only
      rw [hn1 (by omega), fin (.mk 2 0 x.text []) e (ei (by omega)) rfl (el (by omega))]
    · have hdep : depth < 3 := by omega
      have hpk : pk (91 :: (b0 ++ body) ++ r) = 91 := rfl
      have htl : (91 :: (b0 ++ body) ++ r).tail = b0 ++ (body ++ r) := by simp
      rw [hpk, if_neg (by decide), if_neg c1, if_neg (by decide), if_neg (by decide), if_pos rfl]
      unfold rlistM
      rw [if_neg (by omega), htl, blanks_app _ hb0]
      rcases hbody with ⟨hl, rfl⟩ | hI
      · have hst : blanksM ([93] ++ r) = 93 :: r := blanks_stop (by decide)
        have hp93 : pk (93 :: r) = 93 := rfl
        rw [hst, if_pos hp93]
        rw [hl] at hp
        simp only [partL, Prod.mk.injEq, true_and] at hp
        rw [← hp, fin (.mk 3 0 (bytesL []) []) e (ei (by omega)) ((es (by omega)).trans nob.symm) hl]
        rfl
      · have first : ∀ {l : List VT} {t : List UInt8}, FmI l t → ∃ c t', t = c :: t' ∧ begs c.toNat = true := by
          intro l t h
          cases l with
          | nil => exact h.elim
          | cons z l =>
            simp only [FmI] at h
            obtain ⟨tx, b1, rest, h1, _, rfl, _⟩ := h
            obtain ⟨c, t', rfl, hc⟩ := Fm_first h1
            exact ⟨c, t' ++ (b1 ++ rest), rfl, hc⟩
        have key : ∀ (l acc : List VT) (m : Nat) (body : List UInt8) (n n' : Int), FmI l body → FitL l → partL n depth l = (0, n') → l.length ≤ m → ritems (rdV k (depth + 1)) m acc (body ++ r) n = some (acc ++ l, r, n') := by
          intro l
          induction l with
          | nil => intro acc m body n n' h; exact h.elim
          | cons z l ihl =>
            intro acc m body n n' h hf hp hm
            simp only [FmI] at h
            obtain ⟨tx, b1, rest, h1, hb1, rfl, hrest⟩ := h
            simp only [FitL] at hf
            simp only [partL] at hp
            by_cases he : (partV n (depth + 1) z).1 = 0
            · rw [if_neg (fun h => h he)] at hp
              have hz : partV n (depth + 1) z = (0, (partV n (depth + 1) z).2) := Prod.ext he rfl
              obtain ⟨m, rfl⟩ : ∃ m', m = m' + 1 := ⟨m - 1, by simp at hm; omega⟩
              have hrc : ∃ c t', rest = c :: t' ∧ (c = 93 ∨ c = 44) := by
                rcases hrest with ⟨_, rfl⟩ | ⟨b2, t', _, rfl, _⟩
                · exact ⟨_, _, rfl, .inl rfl⟩
                · exact ⟨_, _, rfl, .inr rfl⟩
              obtain ⟨c, t', hct, hc⟩ := hrc
              have hnd : ¬ (48 ≤ pk (b1 ++ (rest ++ r)) ∧ pk (b1 ++ (rest ++ r)) ≤ 57) := bl_pk hb1 (by
                rw [hct]
                show ¬ (48 ≤ c.toNat ∧ c.toNat ≤ 57)
                rcases hc with rfl | rfl <;> decide)
              have hread := (ih z tx n (depth + 1) _ (b1 ++ (rest ++ r)) (by omega) hf.1 h1 hz hnd).resolve_right (by omega)
              have hbl : blanksM (b1 ++ (rest ++ r)) = rest ++ r := by
                rw [blanks_app _ hb1, hct]
                exact blanks_stop (by rcases hc with rfl | rfl <;> decide)
              have eapp : tx ++ (b1 ++ rest) ++ r = tx ++ (b1 ++ (rest ++ r)) := by simp [List.append_assoc]
              unfold ritems
              rw [eapp, hread]
              dsimp only
              rw [hbl]
              rcases hrest with ⟨hl, rfl⟩ | ⟨b2, t2, hb2, rfl, hI2⟩
              · have hp93 : pk ([93] ++ r) = 93 := rfl
                rw [if_pos hp93, hl]
                rw [hl] at hp
                simp only [partL, Prod.mk.injEq, true_and] at hp
                rw [hp]
                rfl
              · have hp44 : pk (44 :: (b2 ++ t2) ++ r) = 44 := rfl
                obtain ⟨c2, t3, e2, hc2⟩ := first hI2
                have hb3 : blanksM (44 :: (b2 ++ t2) ++ r).tail = t2 ++ r := by
                  have : (44 :: (b2 ++ t2) ++ r).tail = b2 ++ (t2 ++ r) := by simp
                  rw [this, blanks_app _ hb2, e2]
                  exact blanks_stop (begs_not hc2).1
                rw [hp44, if_neg (by decide), if_pos rfl, hb3, ihl (acc ++ [z]) m t2 _ n' hI2 hf.2 hp (by simp at hm; omega), List.append_assoc]
                rfl
            · rw [if_pos he] at hp
              rw [hp] at he; exact absurd rfl he
        obtain ⟨c, t', ec, hc⟩ := first hI
        have hst : blanksM (body ++ r) = body ++ r := by
          rw [ec]
          exact blanks_stop (begs_not hc).1
        have hp93 : pk (body ++ r) = c.toNat := by rw [ec]; rfl
        rw [hst, if_neg (by rw [hp93]; exact (begs_not hc).2.1), key x.items [] 6 body (n + 1) n' hI hf.2.2.2 hp (by omega)]
        dsimp only
        rw [List.nil_append, fin (.mk 3 0 (bytesL []) x.items) e (ei (by omega)) ((es (by omega)).trans nob.symm) rfl]
/-- What Print writes is a lawful text. -/
theorem bd_quote (s : ByteArray) : Bd (quoteF s s.size 0) s.data.toList := fun r acc => ⟨s.size + 1, by
  have := read_quote s r s.size 0 acc (by omega) (by omega)
  rw [List.drop_zero] at this
  exact this⟩
theorem print_form (k : Nat) : ∀ (x : VT), SizeOf.sizeOf x < k → Good x → Fm x (printV x) := by
  induction k with
  | zero => intro x h; omega
  | succ k ih =>
    intro x hk hx
    have hi := fun z hz => items_lt (x := x) (z := z) hz
    rw [Good_def] at hx
    obtain ⟨x0, x3, xi, xs, xl, xt, xn, xg⟩ := hx
    have hkx : x.kind = 0 ∨ x.kind = 1 ∨ x.kind = 2 ∨ x.kind = 3 := by omega
    rw [Fm_def, printV_def]
    rcases hkx with e | e | e | e
    · rw [e]; exact .inl ⟨rfl, rfl⟩
    · rw [e]; exact .inr (.inl ⟨rfl, rfl⟩)
    · rw [e]; exact .inr (.inr (.inl ⟨rfl, _, rfl, bd_quote _⟩))
    · rw [e]
      refine .inr (.inr (.inr ⟨rfl, [], printL x.items ++ [93], bl_nil, rfl, ?_⟩))
      have key : ∀ (l : List VT) (y : VT), (∀ z ∈ y :: l, SizeOf.sizeOf z < k) → Good y → GoodL l → FmI (y :: l) (printV y ++ printT l ++ [93]) := by
        intro l
        induction l with
        | nil =>
          intro y hz hy _
          simp only [FmI]
          exact ⟨printV y, [], [93], ih y (hz y (.head _)) hy, bl_nil, by simp [printT], .inl ⟨trivial, rfl⟩⟩
        | cons z l ihl =>
          intro y hz hy hl
          simp only [GoodL] at hl
          have h2 := ihl z (fun u hu => hz u (.tail _ hu)) hl.1 hl.2
          have e1 : FmI (y :: z :: l) (printV y ++ printT (z :: l) ++ [93]) = (∃ tx b1 rest, Fm y tx ∧ Bl b1 ∧ printV y ++ printT (z :: l) ++ [93] = tx ++ (b1 ++ rest) ∧ ((z :: l = [] ∧ rest = [93]) ∨ ∃ b2 t', Bl b2 ∧ rest = 44 :: (b2 ++ t') ∧ FmI (z :: l) t')) := by rw [FmI]
          rw [e1]
          exact ⟨printV y, [], 44 :: ([32] ++ (printV z ++ printT l ++ [93])), ih y (hz y (.head _)) hy, bl_nil, by simp [printT, List.append_assoc], .inr ⟨[32], _, (fun c hc => by simp at hc; subst hc; decide), rfl, h2⟩⟩
      cases hl : x.items with
      | nil => exact .inl ⟨rfl, rfl⟩
      | cons y l =>
        rw [hl] at xg hi
        simp only [GoodL] at xg
        refine .inr ?_
        have := key l y (fun z hz => by have := hi z hz; omega) xg.1 xg.2
        simpa [printL, List.append_assoc] using this
theorem lead_form {x : VT} {t : List UInt8} (hf : Fit x) (hc : checkV x = 0) (hfm : Fm x t) (r : List UInt8) (hr : ¬ (48 ≤ pk r ∧ pk r ≤ 57)) : rdV 4 0 (t ++ r) 0 = some (x, r, (partV 0 0 x).2) :=
  (form_read 4 x t 0 0 _ r (by decide) hf hfm (checkV_part hc) hr).resolve_right (by decide)
end Go.Proofs.YtjlmkahagcojcaaGreatDoor.V
namespace Go.Proofs.YtjlmkahagcojcaaGreatDoor.V
open Go Tr
set_option maxRecDepth 100000
theorem bl_not {b : List UInt8} (h : Bl b) : ¬ (48 ≤ pk b ∧ pk b ≤ 57) := by
  have := bl_pk (z := []) h (by decide)
  rwa [List.append_nil] at this
theorem parse_form {x : VT} {t b0 b1 : List UInt8} (hf : Fit x) (hc : checkV x = 0) (hfm : Fm x t) (h0 : Bl b0) (h1 : Bl b1) : parseX (b0 ++ (t ++ b1)) = .ok (x, (partV 0 0 x).2) := by
  obtain ⟨c, t', e, hb⟩ := Fm_first hfm
  have hst : blanksM (b0 ++ (t ++ b1)) = t ++ b1 := by
    rw [blanks_app _ h0, e]
    exact blanks_stop (begs_not hb).1
  have hend : blanksM b1 = [] := by
    have := blanks_app [] h1
    rw [List.append_nil] at this
    exact this
  unfold parseX
  rw [hst, rdV_some (lead_form hf hc hfm b1 (bl_not h1))]
  dsimp only
  rw [if_pos hend]
theorem print_read {x : VT} (hf : Fit x) (hc : checkV x = 0) {b0 : List UInt8} (h0 : Bl b0) : parseX (b0 ++ printTxt x) = .ok (x, (partV 0 0 x).2) := by
  have hv : validV x = x := by unfold validV; rw [if_pos hc]
  have hfm : Fm x (printTxt x) := by
    unfold printTxt
    rw [hv]
    exact print_form _ x (Nat.lt_succ_self _) (good_of _ x 0 0 (Nat.lt_succ_self _) hc)
  have := parse_form hf hc hfm h0 bl_nil
  rwa [List.append_nil] at this
end Go.Proofs.YtjlmkahagcojcaaGreatDoor.V
