/- The document's answer: a text's lines; a line's words by number. -/
import Derived.Test.YtjlmkahagcojcaaGreatDoorRfw
namespace Go.Proofs.YtjlmkahagcojcaaGreatDoor
open Go Tr
set_option maxRecDepth 100000
def lineV (s : ByteArray) (p : Option Addr) (n c : Nat) : Value := .agg #[.string s, .slice p n c]
theorem rword_any (s : ByteArray) (p : Option Addr) (n c k : Nat) (w : World) (h : AtW w p n (wordsR s.size s.data.toList)) :
    Calls Tryz.prog 25 #[lineV s p n c, .int .i64 k] w fun e w' => e = .returned (.string (bytesL (wordS (aft k s.data.toList)))) ∧ Ch No w w' := by
  unfold lineV
  refine calls_of_fnT mixed Tryz.func25 (s := s25) ?_
  rw [t25]
  have hg := words_get s.size k s.data.toList
  have hlt := words_lt s.size k s.data.toList
  have hn := h.1
  refine nw fun w1 h1 z1 b1 => ld_sl (b1.cell 1) (br_both (fun e => ?_) fun e => ?_)
  · have e : k < n := by have := lt_t e; dsimp only at this; omega
    have hne := hlt.1 (by omega)
    rw [if_neg hne] at hg
    obtain ⟨g, o, rfl, hc⟩ := (h.no h1).2 (by omega)
    refine ld_sl (b1.cell 1) (ix_i (by omega) (by show (k : Int) < (n : Int); omega) ?_)
    rw [addr_add, addr_add, Int.toNat_natCast]
    exact ld_str (hc k _ hg).2 ⟨rfl, h1⟩
  · have e : n ≤ k := by have := lt_f e; dsimp only at this; omega
    have : skipS (aft k s.data.toList) = [] := Decidable.byContradiction fun h => by have := hlt.2 h; omega
    refine ⟨?_, h1⟩
    unfold wordS
    rw [this]; rfl
theorem rat_any (s : ByteArray) (p : Option Addr) (n c k : Nat) (w : World) (h : AtW w p n (wordsR s.size s.data.toList)) :
    Calls Tryz.prog 29 #[lineV s p n c, .int .i64 k] w fun e w' => e = .returned (.int .i64 ((s.size - (skipS (aft k s.data.toList)).length : Nat) : Int)) ∧ Ch No w w' := by
  unfold lineV
  refine calls_of_fnT mixed Tryz.func29 (s := s29) ?_
  rw [t29]
  have hg := words_get s.size k s.data.toList
  have hlt := words_lt s.size k s.data.toList
  have hn := h.1
  refine nw fun w1 h1 z1 b1 => ld_sl (b1.cell 1) (br_both (fun e => ?_) fun e => ?_)
  · have e : k < n := by have := lt_t e; dsimp only at this; omega
    have hne := hlt.1 (by omega)
    rw [if_neg hne] at hg
    obtain ⟨g, o, rfl, hc⟩ := (h.no h1).2 (by omega)
    refine ld_sl (b1.cell 1) (ix_i (by omega) (by show (k : Int) < (n : Int); omega) ?_)
    rw [addr_add, Int.toNat_natCast]
    exact ld_int (hc k _ hg).1 ⟨rfl, h1⟩
  · have e : n ≤ k := by have := lt_f e; dsimp only at this; omega
    have : skipS (aft k s.data.toList) = [] := Decidable.byContradiction fun h => by have := hlt.2 h; omega
    refine ld_str (b1.cell 0) ⟨?_, h1⟩
    rw [this, List.length_nil, Nat.sub_zero]
theorem word_head {r : List UInt8} {c : UInt8} {t : List UInt8} (h : skipS r = c :: t) : ∃ t', wordS r = c :: t' := by
  have hc : c ≠ 32 := by
    have := List.head?_dropWhile_not (p := (· == (32 : UInt8))) (l := r)
    rw [show r.dropWhile (· == 32) = c :: t from h] at this
    simpa using this
  unfold wordS
  rw [h, List.takeWhile_cons, if_pos (by simpa using hc)]
  exact ⟨_, rfl⟩
theorem rpassed_any (s : ByteArray) (p : Option Addr) (n c : Nat) (w : World) (h : AtW w p n (wordsR s.size s.data.toList)) :
    Calls Tryz.prog 24 #[lineV s p n c] w fun e w' => e = .returned (.bool (passed s.data.toList)) ∧ Ch No w w' := by
  unfold lineV
  refine calls_of_fnT mixed Tryz.func24 (s := s24) ?_
  rw [t24]
  have hg := words_get s.size 0 s.data.toList
  have hlt := words_lt s.size 0 s.data.toList
  have hn := h.1
  unfold passed
  refine nw fun w1 h1 z1 b1 => ld_sl (b1.cell 1) (br_both (fun e => ?_) fun e => ?_)
  · have e : n = 0 := by have := eq_t e; dsimp only at this; omega
    have : skipS s.data.toList = [] := Decidable.byContradiction fun h => by have := hlt.2 h; omega
    rw [this]
    exact ⟨rfl, h1⟩
  · have e : n ≠ 0 := fun h => eq_f e (by dsimp only; omega)
    have hne : skipS s.data.toList ≠ [] := hlt.1 (by omega)
    have hg : (wordsR s.size s.data.toList)[0]? = some (s.size - (skipS s.data.toList).length, wordS s.data.toList) := by
      rw [hg]; exact if_neg hne
    obtain ⟨g, o, rfl, hc⟩ := (h.no h1).2 (by omega)
    refine ld_sl (b1.cell 1) (ix_i (by decide) (by show (0 : Int) < (n : Int); omega) ?_)
    rw [addr_add, addr_add]
    refine ld_str (hc 0 _ hg).2 ?_
    cases hs : skipS s.data.toList with
    | nil => exact absurd hs hne
    | cons c t =>
      obtain ⟨t', ht⟩ := word_head hs
      dsimp only
      rw [ht]
      refine bi_i (by decide) (by rw [tb_size]; simp) ⟨?_, h1⟩
      have : (bytesL (c :: t'))[(0 : Int).toNat]'(by rw [tb_size]; simp) = c := rfl
      rw [this]
      by_cases h35 : c = 35
      · subst h35; rfl
      · have h1 : ¬ ((c.toNat : Int) = 35) := fun e => h35 (UInt8.toNat_inj.1 (by show c.toNat = 35; omega))
        rw [beq_eq_false_iff_ne.2 h1, beq_eq_false_iff_ne.2 h35]
/-! ### lines -/
structure LnE where
  s : List UInt8
  p : Option Addr
  n : Nat
  c : Nat
def lineCells (es : List LnE) : List Value := es.flatMap fun x => [.string (bytesL x.s), .slice x.p x.n x.c]
theorem lineCells_len (es : List LnE) : (lineCells es).length = es.length * 2 := by
  induction es with
  | nil => rfl
  | cons x ws ih => simp only [lineCells, List.flatMap_cons, List.length_append, List.length_cons, List.length_nil] at ih ⊢; omega
theorem lineCells_get {es : List LnE} : ∀ {j : Nat} {x : LnE}, es[j]? = some x → (lineCells es)[j * 2]? = some (.string (bytesL x.s)) ∧ (lineCells es)[j * 2 + 1]? = some (.slice x.p x.n x.c) := by
  induction es with
  | nil => intro j x h; simp at h
  | cons y ws ih =>
    intro j x h
    have e : lineCells (y :: ws) = .string (bytesL y.s) :: .slice y.p y.n y.c :: lineCells ws := rfl
    cases j with
    | zero => simp at h; subst h; exact ⟨rfl, rfl⟩
    | succ j =>
      rw [List.getElem?_cons_succ] at h
      obtain ⟨h1, h2⟩ := ih h
      rw [e, show (j + 1) * 2 = j * 2 + 1 + 1 by omega]
      exact ⟨h1, h2⟩
def AtL (w : World) (p : Option Addr) (n : Nat) (es : List LnE) : Prop := es.length = n ∧ (0 < n → ∃ g o, p = some ⟨g, o, none⟩ ∧ ∀ (j : Nat) (x : LnE), es[j]? = some x → w.cell? ⟨g, o + j * 2, none⟩ = some (.string (bytesL x.s)) ∧ w.cell? ⟨g, o + j * 2 + 1, none⟩ = some (.slice x.p x.n x.c)) ∧ ∀ x ∈ es, AtW w x.p x.n (wordsR x.s.length x.s)
theorem AtL.no {w w' : World} {p : Option Addr} {n : Nat} {es : List LnE} (h : AtL w p n es) (hc : Ch No w w') : AtL w' p n es := ⟨h.1, fun hn => by
  obtain ⟨g, o, e, hj⟩ := h.2.1 hn
  exact ⟨g, o, e, fun j u hu => ⟨hc.cellv (hj j u hu).1 (fun h => h), hc.cellv (hj j u hu).2 (fun h => h)⟩⟩, fun x hx => (h.2.2 x hx).no hc⟩
def splitJ (pre : List UInt8) (r : List UInt8) : List (List UInt8) := match splitM r with
  | [] => [pre]
  | x :: t => (pre ++ x) :: t
theorem splitJ_nil (r : List UInt8) : splitJ [] r = splitM r := by
  unfold splitJ
  cases h : splitM r with
  | nil => exact absurd h (split_ne r)
  | cons x t => rfl
theorem splitJ_10 (pre r : List UInt8) : splitJ pre (10 :: r) = pre :: splitM r := by
  unfold splitJ
  rw [splitM, if_pos rfl]
  simp
theorem splitJ_c (pre r : List UInt8) (c : UInt8) (h : c ≠ 10) : splitJ pre (c :: r) = splitJ (pre ++ [c]) r := by
  unfold splitJ
  rw [splitM, if_neg h]
  cases hs : splitM r with
  | nil => exact absurd hs (split_ne r)
  | cons x t => simp
theorem splitJ_end (pre : List UInt8) : splitJ pre [] = [pre] := by unfold splitJ; simp [splitM]
theorem rlines_any (s : ByteArray) (hs : s.size ≤ 10000) (w : World) : Calls Tryz.prog 23 #[.string s] w fun e w' => Ch No w w' ∧ ∃ p n c es, e = .returned (.slice p n c) ∧ AtL w' p n es ∧ es.map (·.s) = splitM s.data.toList ∧ n ≤ 10001 ∧ n ≤ c ∧ ∀ x ∈ es, x.s.length ≤ s.size := by
  refine calls_of_fnT mixed Tryz.func23 (s := s23) ?_
  rw [t23]
  generalize hl : s.data.toList = l
  have hz : s.size = l.length := by rw [← hl]; rfl
  refine loop_i mixed m23_1 s23_1 (by kernel_rfl) (by kernel_rfl)
    (fun (v : (Option Addr × Nat × Nat) × Int × Int × Unit) w' => ∃ (i f : Nat) (es : List LnE), v.2.2.1 = i ∧ v.2.1 = f ∧ f ≤ i ∧ i ≤ l.length + 1 ∧ Ch No w w' ∧ Row w' w.heap.size tLine 2 v.1.1 v.1.2.1 v.1.2.2 (lineCells es) ∧ es.length ≤ i ∧ (∀ x ∈ es, Row w' w.heap.size tWord 2 x.p x.n x.c (wordCells (wordsR x.s.length x.s)) ∧ x.s.length ≤ l.length) ∧
      ((i ≤ l.length ∧ splitM l = es.map (·.s) ++ splitJ ((l.drop f).take (i - f)) (l.drop i)) ∨ (i = l.length + 1 ∧ splitM l = es.map (·.s)))) (fun (v : (Option Addr × Nat × Nat) × Int × Int × Unit) _ => l.length + 1 - v.2.2.1.toNat) ((none, 0, 0), 0, 0, ()) rfl ⟨0, 0, [], rfl, rfl, by omega, by omega, Ch.refl _ _, Row.nil _ _ _ _, by simp, fun x hx => (by cases hx), .inl ⟨by omega, by rw [List.map_nil, List.nil_append, List.drop_zero, Nat.sub_self, List.take_zero, splitJ_nil]⟩⟩ ?_
  rintro ⟨⟨p, n, c⟩, y, x, ⟨⟩⟩ g w1 ⟨i, f, es, (rfl : x = i), (rfl : y = f), hfi, hi, h1, hrow, hel, hes, hst⟩
  rw [t23_1]
  dsimp only at hrow
  have hnl := hrow.len
  rw [lineCells_len] at hnl
  refine br_both (fun e => ?_) fun e => ?_
  · have hil : i ≤ l.length := by have := le_t e; omega
    obtain ⟨_, hsp⟩ : i ≤ l.length ∧ splitM l = es.map (·.s) ++ splitJ ((l.drop f).take (i - f)) (l.drop i) := by
      rcases hst with h | h
      · exact h
      · omega
    have wi : IntKind.i64.wrap ((i : Int) + 1) = ((i + 1 : Nat) : Int) := by rw [wrap_succ (by omega) (by omega)]; omega
    refine cut_i mixed s23_2 (fun (v : Bool × Unit) w' => w' = w1 ∧ v.1 = (decide (i = l.length) || decide (l[i]? = some 10))) (by kernel_rfl) (fun g => ?_) ?_
    · rw [t23_2]
      refine br_both (fun e => ⟨rfl, (_, ()), rfl, rfl, ?_⟩) fun e => ?_
      · have : (i : Int) = (s.size : Int) := eq_t e
        rw [decide_eq_true (show i = l.length by omega)]; rfl
      · have hne : (i : Int) ≠ (s.size : Int) := eq_f e
        have hlt : i < l.length := by omega
        obtain ⟨c0, hc0⟩ : ∃ u, l[i]? = some u := ⟨_, List.getElem?_eq_getElem hlt⟩
        obtain ⟨hb1, hb2⟩ := byte_at s (by rw [hl]; exact hc0)
        refine bi_i (by omega) (by rw [Int.toNat_natCast]; exact hb1) ⟨rfl, (_, ()), rfl, rfl, ?_⟩
        simp only [Int.toNat_natCast]
        rw [hb2, decide_eq_false (show ¬ i = l.length by omega), Bool.false_or, hc0]
        by_cases h10 : c0 = 10
        · subst h10; rfl
        · have h1 : ¬ ((c0.toNat : Int) = 10) := fun e => h10 (UInt8.toNat_inj.1 (by show c0.toNat = 10; omega))
          rw [beq_eq_false_iff_ne.2 h1, decide_eq_false (by simpa using h10)]
    rintro ⟨u, ⟨⟩⟩ g w2 ⟨rfl, hu⟩
    dsimp only at hu
    refine br_both (fun e => ?_) fun e => ?_
    · have e : u = true := e
      rw [e] at hu
      have hex : s.extract f i = bytesL ((l.drop f).take (i - f)) := ba_eq (by rw [ext_list, hl])
      have hpl : ((l.drop f).take (i - f)).length = i - f := by rw [List.length_take, List.length_drop]; omega
      refine nd3 (by omega) (by omega) (by show (i : Int) ≤ (s.size : Int); omega) ?_
      rw [Int.toNat_natCast, Int.toNat_natCast, hex]
      generalize hpre : (l.drop f).take (i - f) = pre at *
      refine cl_i (rcut_any (bytesL pre) (by rw [tb_size]; omega) w2) ?_
      rintro e' w3 ⟨h3, q, m, d, rfl, hw, hm⟩
      rw [tb_size, tb_data] at hw
      refine ⟨(q, m, d), rfl, nw fun w4 h4 z4 b4 => ?_⟩
      have h34 := h3.trans h4
      have hrow4 := hrow.no h34
      refine ap_blk (by kernel_rfl) infoLine rfl (by omega) hrow4 (by have := h1.size; have := h34.size; omega) b4 (by simp) (fun u hu => by simp at hu; rcases hu with rfl | rfl <;> rfl) (by unfold maxLen; omega) (by omega) fun q' d' w5 g5 => ?_
      have hch : Ch No w w5 := (h1.trans h34).then_ g5.ch (fun k hk h => by have := (hrow4.lt h).1; omega)
      have hsz3 := h1.size
      refine ⟨((q', n + 1, d'), ((i + 1 : Nat) : Int), ((i + 1 : Nat) : Int), ()), ?_, ⟨i + 1, i + 1, es ++ [⟨pre, q, m, d⟩], rfl, rfl, Nat.le_refl _, by omega, hch, ?_, by rw [List.length_append, List.length_singleton]; omega, ?_, ?_⟩, by dsimp only; omega⟩
      · rw [wi]; rfl
      · have e1 : lineCells (es ++ [⟨pre, q, m, d⟩]) = lineCells es ++ [.string (bytesL pre), .slice q m d] := by unfold lineCells; rw [List.flatMap_append]; rfl
        rw [e1]; exact g5.own
      · intro x hx
        rcases List.mem_append.1 hx with hx | hx
        · obtain ⟨h6, h7⟩ := hes x hx
          have h8 := h6.no h34
          exact ⟨h8.ch g5.ch (h8.noTy (noTy_row hrow4 (by decide))), h7⟩
        · rw [List.mem_singleton] at hx
          subst hx
          have h8 := (hw.base (base' := w.heap.size) (by omega)).no h4
          exact ⟨h8.ch g5.ch (h8.noTy (noTy_row hrow4 (by decide))), by dsimp only; omega⟩
      · rcases Bool.or_eq_true_iff.1 hu.symm with h | h
        · have h := of_decide_eq_true h
          right
          refine ⟨by omega, ?_⟩
          rw [hsp, List.drop_of_length_le (by omega), splitJ_end, List.map_append]
          rfl
        · have h := of_decide_eq_true h
          have hlt := (List.getElem?_eq_some_iff.1 h).1
          left
          refine ⟨by omega, ?_⟩
          rw [hsp, drop_cons h, splitJ_10, Nat.sub_self, List.take_zero, splitJ_nil, List.map_append, List.append_assoc]
          rfl
    · have e : u = false := e
      rw [e] at hu
      have hu := hu.symm
      rw [Bool.or_eq_false_iff] at hu
      have hlt : i < l.length := by have := of_decide_eq_false hu.1; omega
      obtain ⟨c0, hc0⟩ : ∃ u, l[i]? = some u := ⟨_, List.getElem?_eq_getElem hlt⟩
      have h10 : c0 ≠ 10 := fun h => of_decide_eq_false hu.2 (by rw [hc0, h])
      refine ⟨((p, n, c), (f : Int), ((i + 1 : Nat) : Int), ()), ?_, ⟨i + 1, f, es, rfl, rfl, by omega, by omega, h1, hrow, by omega, hes, .inl ⟨by omega, ?_⟩⟩, by dsimp only; omega⟩
      · rw [wi]; rfl
      · rw [hsp, drop_cons hc0, splitJ_c _ _ _ h10, show i + 1 - f = (i - f) + 1 by omega, take_snoc (c := c0) (by rw [show f + (i - f) = i by omega]; exact hc0)]
  · have hil : l.length < i := by have := le_f e; omega
    obtain ⟨_, hsp⟩ : i = l.length + 1 ∧ splitM l = es.map (·.s) := by
      rcases hst with h | h
      · omega
      · exact h
    refine ⟨rfl, ((p, n, c), ()), rfl, fun g => ⟨h1, p, n, c, es, rfl, ⟨by omega, fun hn => ?_, fun x hx => AtW.row (hes x hx).1⟩, hsp.symm, by omega, hrow.cap.1, fun x hx => by have := (hes x hx).2; omega⟩⟩
    obtain ⟨gb, e, _, hc⟩ := hrow.get hn
    refine ⟨gb, 0, e, fun j x hx => ?_⟩
    obtain ⟨h1, h2⟩ := lineCells_get hx
    simp only [Nat.zero_add]
    exact ⟨hc _ _ h1, hc _ _ h2⟩
end Go.Proofs.YtjlmkahagcojcaaGreatDoor
