/- The fuel is enough. -/
import Derived.Test.YtkebljkdkaagfaaGreatDoorPmd
namespace Go.Proofs.YtkebljkdkaagfaaGreatDoor.E
open Go Tr
set_option maxRecDepth 100000
set_option maxHeartbeats 2000000
/-- How many bytes a state has left, and a token that is looked at. -/
def sizeS (st : PS) : Nat := st.l.length + match st.tok with
  | some t => if t.kind = 0 then 0 else 1
  | none => 0
theorem sizeS_drop (st : PS) : sizeS (dropB st) = st.l.length := rfl
theorem skB_len : ∀ l, (skB l).length ≤ l.length
  | [] => Nat.le_refl _
  | c :: r => by
    rw [skB]
    split
    · have := skB_len r; rw [List.length_cons]; omega
    · exact Nat.le_refl _
theorem numB_len : ∀ (l : Txt) (n x : Nat) (r : Txt), numB n l = some (x, r) → r.length ≤ l.length
  | [], n, x, r, h => by rw [numB] at h; cases h; exact Nat.le_refl _
  | c :: l, n, x, r, h => by
    rw [numB] at h
    split at h
    · split at h
      · cases h
      · have := numB_len l _ _ _ h; rw [List.length_cons]; omega
    · cases h; exact Nat.le_refl _
theorem numB_lt {c : UInt8} {l r : Txt} {n x : Nat} (hc : isD c = true) (h : numB n (c :: l) = some (x, r)) : r.length < (c :: l).length := by
  rw [numB, if_pos hc] at h
  split at h
  · cases h
  · have := numB_len l _ _ _ h; rw [List.length_cons]; omega
theorem dropWhile_len {p : UInt8 → Bool} : ∀ l : Txt, (l.dropWhile p).length ≤ l.length
  | [] => Nat.le_refl _
  | c :: l => by
    rw [List.dropWhile_cons]
    split
    · have := dropWhile_len (p := p) l; rw [List.length_cons]; omega
    · exact Nat.le_refl _
theorem signs_len : ∀ u ∈ signsM, 1 ≤ u.length := by decide
theorem lexB_len {L : Nat} {l r : Txt} {t : Tk} (h : lexB L l = .ok (t, r)) : (t.kind = 0 ∧ r = []) ∨ (t.kind ≠ 0 ∧ r.length < l.length) := by
  have hs := skB_len l
  unfold lexB at h
  split at h
  · cases h; exact .inl ⟨rfl, rfl⟩
  · rename_i c l' hl
    rw [hl] at hs
    split at h
    · rename_i hc
      split at h
      · cases h
      · rename_i n r' hn
        cases h
        exact .inr ⟨by simp, Nat.lt_of_lt_of_le (numB_lt hc hn) hs⟩
    · split at h
      · rename_i hc
        split at h
        · cases h
          refine .inr ⟨by simp, ?_⟩
          rw [List.dropWhile_cons_of_pos (p := isL) hc]
          have := dropWhile_len (p := isL) l'
          rw [List.length_cons] at hs
          omega
        · cases h
      · split at h
        · rename_i hc
          split at h
          · cases h
          · rename_i t' r' hq
            cases h
            refine .inr ⟨by simp, ?_⟩
            have hr : r = (c :: l').drop (1 + cloB false (c :: l').tail) := by
              unfold quoB at hq
              dsimp only at hq
              split at hq
              · cases hq
              · split at hq
                · cases hq; rfl
                · cases hq
            rw [hr, List.length_drop]
            rw [List.length_cons] at hs ⊢
            omega
        · split at h
          · rename_i s hsg
            cases h
            refine .inr ⟨by simp, ?_⟩
            have := signs_len s (List.mem_of_find?_eq_some hsg)
            rw [List.length_drop]
            rw [List.length_cons] at hs ⊢
            omega
          · cases h
theorem lexB_ne {L : Nat} {l : Txt} {c : Er} (h : lexB L l = .error c) : c ≠ (0, 0) := by
  unfold lexB at h
  split at h
  · cases h
  · split at h
    · split at h
      · cases h; simp
      · cases h
    · split at h
      · split at h
        · cases h
        · cases h; simp
      · split at h
        · split at h
          · cases h; simp
          · cases h
        · split at h
          · cases h
          · cases h; simp
section
variable {L : Nat}
/-- No fuel was lacking; no more is left than m. -/
def Fine {α : Type} (m : Nat) (x : R α) : Prop := x ≠ .error (0, 0) ∧ ∀ a st, x = .ok (a, st) → sizeS st ≤ m
theorem Fine.mono {α : Type} {m m' : Nat} {x : R α} (h : Fine m x) (hm : m ≤ m') : Fine m' x := ⟨h.1, fun a st e => Nat.le_trans (h.2 a st e) hm⟩
theorem fine_ok {α : Type} {m : Nat} {a : α} {st : PS} (h : sizeS st ≤ m) : Fine m (.ok (a, st) : R α) := ⟨by simp, fun _ _ e => by cases e; exact h⟩
theorem fine_er {α : Type} {m : Nat} {c : Er} (h : c ≠ (0, 0)) : Fine m (.error c : R α) := ⟨fun e => h (by cases e; rfl), fun _ _ e => by cases e⟩
theorem fine_bind {α β : Type} {m : Nat} {x : R α} {g : α → PS → R β} (hx : x ≠ .error (0, 0)) (hg : ∀ a st, x = .ok (a, st) → Fine m (g a st)) : Fine m (bindR x g) := by
  cases x with
  | error c => exact fine_er (fun e => hx (by rw [e]))
  | ok y => exact hg y.1 y.2 rfl
theorem peek_fine {st st' : PS} {t : Tk} (h : peekB L st = .ok (t, st')) : sizeS st' ≤ sizeS st ∧ sizeS (dropB st') ≤ sizeS st ∧ (t.kind ≠ 0 → sizeS (dropB st') + 1 ≤ sizeS st) ∧ sizeS st' = (sizeS (dropB st') + if t.kind = 0 then 0 else 1) := by
  unfold peekB at h
  split at h
  · rename_i t' ht
    cases h
    have e : sizeS st = st.l.length + if t.kind = 0 then 0 else 1 := by unfold sizeS; rw [ht]
    rw [sizeS_drop, e]
    refine ⟨Nat.le_refl _, Nat.le_add_right _ _, fun hk => ?_, rfl⟩
    rw [if_neg hk]
    exact Nat.le_refl _
  · rename_i ht
    split at h
    · cases h
    · rename_i t' r hl
      cases h
      have e : sizeS st = st.l.length := by unfold sizeS; rw [ht]; rfl
      have e2 : sizeS ⟨r, some t, st.op⟩ = r.length + if t.kind = 0 then 0 else 1 := rfl
      rw [sizeS_drop, e, e2]
      dsimp only
      rcases lexB_len hl with ⟨h1, rfl⟩ | ⟨h1, h2⟩
      · rw [if_pos h1]
        exact ⟨Nat.zero_le _, Nat.zero_le _, fun h => absurd h1 h, rfl⟩
      · rw [if_neg h1]
        exact ⟨h2, Nat.le_of_lt h2, fun _ => h2, rfl⟩
theorem peek_ne {st : PS} : peekB L st ≠ .error (0, 0) := by
  unfold peekB
  split
  · simp
  · split
    · rename_i e he
      intro h
      cases h
      exact lexB_ne he rfl
    · simp
theorem isB_kind {t : Tk} {kind : Nat} {text : Txt} (h : isB t kind text = true) : t.kind = kind := by
  unfold isB at h
  rw [Bool.and_eq_true, decide_eq_true_eq] at h
  exact h.1
theorem want_ne {kind : Nat} {text : Txt} {st : PS} : wantB L kind text st ≠ .error (0, 0) := by
  unfold wantB
  have := @peek_ne L st
  split
  · rename_i e he
    rw [he] at this
    intro h
    cases h
    exact this rfl
  · split
    · split
      · split
        · simp
        · simp
      · split <;> simp
    · simp
theorem want_fine {kind : Nat} {text : Txt} {st st' : PS} {u : Unit} (hk : kind ≠ 0) (h : wantB L kind text st = .ok (u, st')) : sizeS st' + 1 ≤ sizeS st := by
  unfold wantB at h
  split at h
  · cases h
  · rename_i t st1 hp
    obtain ⟨h1, h2, h3, h4⟩ := peek_fine hp
    split at h
    · rename_i hb
      have h5 := h3 (by rw [isB_kind hb]; exact hk)
      have : sizeS st' = sizeS (dropB st1) := by
        split at h
        · split at h
          · cases h
          · cases h; rfl
        · split at h
          · cases h; rfl
          · cases h; rfl
      omega
    · cases h
theorem opOf_kind {t : Tk} {kind : Nat} {ops : List Txt} {op : Txt} (h : opOf t kind ops = some op) : t.kind = kind := by
  unfold opOf at h
  split at h
  · rename_i hk; exact hk
  · cases h
def rk : Lv → Nat
  | .expr => 11
  | .or => 10
  | .and => 9
  | .not => 8
  | .cmp => 7
  | .sum => 6
  | .term => 5
  | .neg => 4
  | .atom => 3
  | .list => 2
  | .call _ => 2
theorem loop_fine {part : PS → R N} {kind : Nat} {ops : List Txt} (hk : kind ≠ 0) {M : Nat} (hp : ∀ st, sizeS st < M → Fine (sizeS st) (part st)) : ∀ (m : Nat) (a : N) (st : PS), sizeS st < m → sizeS st ≤ M → Fine (sizeS st) (loopB L part kind ops m a st)
  | 0, _, _, h, _ => by omega
  | m + 1, a, st, h, hM => by
    show Fine _ (bindR (peekB L st) _)
    refine fine_bind peek_ne fun t st1 he => ?_
    obtain ⟨h1, h2, h3, h4⟩ := peek_fine he
    split
    · exact fine_ok h1
    · rename_i op hop
      have h5 := h3 (by rw [opOf_kind hop]; exact hk)
      have hpp := hp (dropB st1) (by omega)
      refine fine_bind hpp.1 fun c st2 he2 => ?_
      have h6 := hpp.2 c st2 he2
      exact (loop_fine hk hp m _ st2 (by omega) (by omega)).mono (by omega)
theorem items_fine {part : PS → R N} {M : Nat} (hp : ∀ st, sizeS st < M → Fine (sizeS st) (part st)) : ∀ (m : Nat) (acc : List N) (st : PS), sizeS st < m → sizeS st ≤ M → Fine (sizeS st) (itemsB L part m acc st)
  | 0, _, _, h, _ => by omega
  | m + 1, acc, st, h, hM => by
    unfold itemsB
    split
    · refine fine_bind peek_ne fun t st1 he => ?_
      obtain ⟨h1, h2, h3, h4⟩ := peek_fine he
      split
      · rename_i hb
        have h5 := h3 (by rw [isB_kind hb]; omega)
        have hpp := hp (dropB st1) (by omega)
        refine fine_bind hpp.1 fun c st2 he2 => ?_
        have h6 := hpp.2 c st2 he2
        exact (items_fine hp m _ st2 (by omega) (by omega)).mono (by omega)
      · exact fine_ok h1
    · exact fine_ok (Nat.le_refl _)
theorem args_fine {part : PS → R N} {M : Nat} (hp : ∀ st, sizeS st ≤ M → Fine (sizeS st) (part st)) : ∀ (m : Nat) (acc : List N) (st : PS), sizeS st ≤ M → Fine (sizeS st) (argsB L part m acc st)
  | 0, _, _, _ => fine_ok (Nat.le_refl _)
  | m + 1, acc, st, hM => by
    unfold argsB
    have h0 : Fine (sizeS st) (if acc = [] then (.ok ((), st) : R Unit) else wantB L 4 sCom st) := by
      split
      · exact fine_ok (Nat.le_refl _)
      · exact ⟨want_ne, fun a st' he => by have := want_fine (by omega) he; omega⟩
    refine fine_bind h0.1 fun u st1 he => ?_
    have h1 := h0.2 u st1 he
    have hpp := hp st1 (by omega)
    refine fine_bind hpp.1 fun c st2 he2 => ?_
    have h2 := hpp.2 c st2 he2
    exact (args_fine hp m _ st2 (by omega)).mono (by omega)
theorem prs_fine : ∀ (f : Nat) (lv : Lv) (st : PS), 12 * sizeS st + rk lv < f → Fine (sizeS st) (prs L f lv st)
  | 0, _, _, h => by omega
  | f + 1, lv, st, h => by
    have chain : ∀ (lv' : Lv) (kind : Nat) (ops : List Txt), kind ≠ 0 → 12 * sizeS st + rk lv' < f → Fine (sizeS st) (bindR (prs L f lv' st) fun a st => loopB L (prs L f lv') kind ops f a st) := fun lv' kind ops hk hf => by
      have h1 := prs_fine f lv' st hf
      refine fine_bind h1.1 fun a st1 he => ?_
      have h2 := h1.2 a st1 he
      exact (loop_fine hk (M := sizeS st) (fun st2 h3 => prs_fine f lv' st2 (by omega)) f a st1 (by omega) h2).mono h2
    cases lv with
    | expr =>
      have h : 12 * sizeS st + 11 < f + 1 := h
      show Fine _ (bindR (peekB L st) _)
      refine fine_bind peek_ne fun t st1 he => ?_
      obtain ⟨h1, h2, h3, h4⟩ := peek_fine he
      split
      · rename_i hb
        have h5 := h3 (by rw [isB_kind hb]; omega)
        have p1 := prs_fine f .expr (dropB st1) (by show _ + 11 < f; omega)
        refine fine_bind p1.1 fun c st2 e2 => ?_
        have q1 := p1.2 _ _ e2
        refine fine_bind want_ne fun u st3 e3 => ?_
        have q2 := want_fine (by omega) e3
        have p2 := prs_fine f .expr st3 (by show _ + 11 < f; omega)
        refine fine_bind p2.1 fun c st4 e4 => ?_
        have q3 := p2.2 _ _ e4
        refine fine_bind want_ne fun u st5 e5 => ?_
        have q4 := want_fine (by omega) e5
        have p3 := prs_fine f .expr st5 (by show _ + 11 < f; omega)
        refine fine_bind p3.1 fun c st6 e6 => ?_
        have q5 := p3.2 _ _ e6
        exact fine_ok (by omega)
      · exact (prs_fine f .or st1 (by show _ + 10 < f; omega)).mono h1
    | or => exact chain .and _ _ (by omega) (by have h : 12 * sizeS st + 10 < f + 1 := h; show _ + 9 < f; omega)
    | and => exact chain .not _ _ (by omega) (by have h : 12 * sizeS st + 9 < f + 1 := h; show _ + 8 < f; omega)
    | sum => exact chain .term _ _ (by omega) (by have h : 12 * sizeS st + 6 < f + 1 := h; show _ + 5 < f; omega)
    | term => exact chain .neg _ _ (by omega) (by have h : 12 * sizeS st + 5 < f + 1 := h; show _ + 4 < f; omega)
    | not =>
      have h : 12 * sizeS st + 8 < f + 1 := h
      show Fine _ (bindR (peekB L st) _)
      refine fine_bind peek_ne fun t st1 he => ?_
      obtain ⟨h1, h2, h3, h4⟩ := peek_fine he
      split
      · rename_i hb
        have h5 := h3 (by rw [isB_kind hb]; omega)
        have p1 := prs_fine f .not (dropB st1) (by show _ + 8 < f; omega)
        refine fine_bind p1.1 fun c st2 e2 => fine_ok ?_
        have q1 := p1.2 _ _ e2
        omega
      · exact (prs_fine f .cmp st1 (by show _ + 7 < f; omega)).mono h1
    | neg =>
      have h : 12 * sizeS st + 4 < f + 1 := h
      show Fine _ (bindR (peekB L st) _)
      refine fine_bind peek_ne fun t st1 he => ?_
      obtain ⟨h1, h2, h3, h4⟩ := peek_fine he
      split
      · rename_i hb
        have h5 := h3 (by rw [isB_kind hb]; omega)
        have p1 := prs_fine f .neg (dropB st1) (by show _ + 4 < f; omega)
        refine fine_bind p1.1 fun c st2 e2 => fine_ok ?_
        have q1 := p1.2 _ _ e2
        omega
      · exact (prs_fine f .atom st1 (by show _ + 3 < f; omega)).mono h1
    | cmp =>
      have h : 12 * sizeS st + 7 < f + 1 := h
      have p1 := prs_fine f .sum st (by show _ + 6 < f; omega)
      show Fine _ (bindR (prs L f .sum st) _)
      refine fine_bind p1.1 fun a st1 e1 => ?_
      have q1 := p1.2 _ _ e1
      refine fine_bind peek_ne fun t st2 he => ?_
      obtain ⟨h1, h2, h3, h4⟩ := peek_fine he
      split
      · exact fine_ok (by omega)
      · rename_i op hop
        have h5 := h3 (by rw [opOf_kind hop]; omega)
        have p2 := prs_fine f .sum (dropB st2) (by show _ + 6 < f; omega)
        refine fine_bind p2.1 fun c st3 e3 => fine_ok ?_
        have q2 := p2.2 _ _ e3
        omega
    | atom =>
      have h : 12 * sizeS st + 3 < f + 1 := h
      show Fine _ (bindR (peekB L st) _)
      refine fine_bind peek_ne fun t st1 he => ?_
      obtain ⟨h1, h2, h3, h4⟩ := peek_fine he
      split
      · exact fine_ok h2
      split
      · exact fine_ok h2
      split
      · refine fine_bind want_ne fun u st2 e2 => ?_
        have q1 := want_fine (by omega) e2
        have p1 := prs_fine f .expr st2 (by show _ + 11 < f; omega)
        refine fine_bind p1.1 fun c st3 e3 => ?_
        have q2 := p1.2 _ _ e3
        refine fine_bind want_ne fun u st4 e4 => fine_ok ?_
        have q3 := want_fine (by omega) e4
        omega
      split
      · exact (prs_fine f .list st1 (by show _ + 2 < f; omega)).mono h1
      split
      · split
        · exact (prs_fine f (.call _) st1 (by show _ + 2 < f; omega)).mono h1
        · split
          · exact fine_ok h2
          · exact fine_er (by simp)
      · exact fine_er (by simp)
    | list =>
      have h : 12 * sizeS st + 2 < f + 1 := h
      show Fine _ (bindR (wantB L 4 sLb st) _)
      refine fine_bind want_ne fun u st1 e1 => ?_
      have q1 := want_fine (by omega) e1
      refine fine_bind peek_ne fun t st2 he => ?_
      obtain ⟨h1, h2, h3, h4⟩ := peek_fine he
      split
      · refine fine_bind want_ne fun u st3 e3 => fine_ok ?_
        have q3 := want_fine (by omega) e3
        omega
      · have p1 := prs_fine f .expr st2 (by show _ + 11 < f; omega)
        refine fine_bind p1.1 fun c st3 e3 => ?_
        have q2 := p1.2 _ _ e3
        have p2 := items_fine (L := L) (part := prs L f .expr) (M := sizeS st3) (fun st4 h5 => prs_fine f .expr st4 (by show _ + 11 < f; omega)) f [c] st3 (by omega) (Nat.le_refl _)
        refine fine_bind p2.1 fun l st4 e4 => ?_
        have q3 := p2.2 _ _ e4
        refine fine_bind want_ne fun u st5 e5 => fine_ok ?_
        have q4 := want_fine (by omega) e5
        omega
    | call i =>
      have h : 12 * sizeS st + 2 < f + 1 := h
      show Fine _ (bindR (peekB L st) _)
      refine fine_bind peek_ne fun t st1 he => ?_
      obtain ⟨h1, h2, h3, h4⟩ := peek_fine he
      refine fine_bind want_ne fun u st2 e2 => ?_
      have q1 := want_fine (by omega) e2
      have p1 := args_fine (L := L) (part := prs L f .expr) (M := sizeS st2) (fun st4 h5 => prs_fine f .expr st4 (by show _ + 11 < f; omega)) (takesB i) [] st2 (Nat.le_refl _)
      refine fine_bind p1.1 fun l st3 e3 => ?_
      have q2 := p1.2 _ _ e3
      refine fine_bind want_ne fun u st4 e4 => fine_ok ?_
      have q3 := want_fine (by omega) e4
      omega
/-- A whole text's reading ends. -/
theorem prs_whole (l : Txt) : prs l.length (12 * l.length + 13) .expr ⟨l, none, 0⟩ ≠ .error (0, 0) :=
  (prs_fine (L := l.length) (12 * l.length + 13) .expr ⟨l, none, 0⟩ (by show 12 * (l.length + 0) + 11 < _; omega)).1
end
end Go.Proofs.YtkebljkdkaagfaaGreatDoor.E
