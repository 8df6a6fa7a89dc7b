/- Scripts, in plain Lean: what is written is read back. -/
import Derived.Test.YtjlmkahagcojcaaGreatDoorPrq
namespace Go.Proofs.YtjlmkahagcojcaaGreatDoor
open Go
theorem rep_wd : Wd wRepeat := ⟨by decide, by decide⟩
theorem rep_line (n : Nat) (h1 : 1 ≤ n) (h2 : n ≤ 2000) (no : Nat) (top : BlkM) (below : List BlkM) :
    passed (wRepeat ++ 32 :: Lib.itoa (n : Int)) = false ∧ lineM no (wRepeat ++ 32 :: Lib.itoa (n : Int)) (top :: below) = .ok (⟨[], n, no, 0⟩ :: top :: below) := by
  obtain ⟨t0, t1, t2⟩ := tok0 rep_wd (brk_sp (Lib.itoa (n : Int)))
  have hb := tok (itoa_wd (n : Int)) brk_nil
  rw [List.append_nil] at hb
  obtain ⟨_, u1, u2⟩ := hb
  constructor
  · unfold passed
    rw [t0]
    rfl
  · unfold lineM
    dsimp only
    rw [if_pos t1, t2, u1, u2, num_nat (n : Int) (by omega) (by omega)]
    dsimp only
    rw [if_neg (by omega), endM_nil, t0, Nat.sub_self]
    rfl
theorem end_line (no : Nat) (top around : BlkM) (rest : List BlkM) (h : around.ops.length + top.times * top.ops.length ≤ 2000) :
    passed wEnd = false ∧ lineM no wEnd (top :: around :: rest) = .ok ({ around with ops := around.ops ++ (List.replicate top.times top.ops).flatten } :: rest) := by
  refine ⟨by decide, ?_⟩
  unfold lineM
  dsimp only
  rw [if_neg (by decide), if_pos (by decide), show endM wEnd.length (afterS wEnd) = .ok () from rfl]
  dsimp only
  rw [if_neg (by omega)]
theorem lines_go {no : Nat} {l : List UInt8} {ls : List (List UInt8)} {st st' : List BlkM} (hp : passed l = false) (h : lineM no l st = .ok st') : linesM no (l :: ls) st = linesM (no + 1) ls st' := by
  rw [linesM, hp, h]
  rfl
theorem rep_mem (n : Nat) : ∀ c ∈ wRepeat ++ 32 :: Lib.itoa (n : Int), c ≠ 10 := by
  intro c hc
  rcases List.mem_append.1 hc with hc | hc
  · have : ∀ c ∈ wRepeat, c ≠ 10 := by decide
    exact this c hc
  · rcases List.mem_cons.1 hc with rfl | hc
    · decide
    · exact ((itoa_wd (n : Int)).2 c hc).2
theorem reps_read {o : OpM} {line : List UInt8} (h : stepLineM o = some line) (r : List UInt8) : ∀ (n : Nat) (b : BlkM) (no : Nat), b.ops.length + n ≤ 2000 →
    ∃ no', linesM no (splitM ((List.replicate n (line ++ [10])).flatten ++ r)) [b] = linesM no' (splitM r) [{ b with ops := b.ops ++ List.replicate n o }]
  | 0, b, no, _ => ⟨no, by simp⟩
  | n + 1, b, no, hl => by
    obtain ⟨hp, hm⟩ := line_read h no b []
    rw [if_neg (by omega)] at hm
    obtain ⟨no', ih⟩ := reps_read h r n { b with ops := b.ops ++ [o] } (no + 1) (by simp only [List.length_append, List.length_singleton]; omega)
    refine ⟨no', ?_⟩
    have e : (List.replicate (n + 1) (line ++ [10])).flatten ++ r = line ++ 10 :: ((List.replicate n (line ++ [10])).flatten ++ r) := by
      rw [List.replicate_succ, List.flatten_cons]; simp
    rw [e, split_line _ _ (line_mem h), lines_go hp hm, ih, List.replicate_succ]
    simp
theorem run_read {o : OpM} {line : List UInt8} (h : stepLineM o = some line) (r : List UInt8) (n : Nat) (b : BlkM) (no : Nat) (h1 : 1 ≤ n) (hl : b.ops.length + n ≤ 2000) :
    ∃ no', linesM no (splitM (runText n (line ++ [10]) ++ r)) [b] = linesM no' (splitM r) [{ b with ops := b.ops ++ List.replicate n o }] := by
  unfold runText
  by_cases h3 : n ≥ 3
  · rw [if_pos h3]
    have e : wRepeat ++ 32 :: (Lib.itoa (n : Int) ++ [10]) ++ (line ++ [10] ++ (wEnd ++ [10])) ++ r = (wRepeat ++ 32 :: Lib.itoa (n : Int)) ++ 10 :: (line ++ 10 :: (wEnd ++ 10 :: r)) := by simp
    obtain ⟨p1, m1⟩ := rep_line n h1 (by omega) no b []
    obtain ⟨p2, m2⟩ := line_read h (no + 1) ⟨[], n, no, 0⟩ [b]
    rw [if_neg (by simp)] at m2
    obtain ⟨p3, m3⟩ := end_line (no + 1 + 1) ⟨[] ++ [o], n, no, 0⟩ b [] (by simpa using hl)
    refine ⟨no + 1 + 1 + 1, ?_⟩
    rw [e, split_line _ _ (rep_mem n), split_line _ _ (line_mem h), split_line _ _ (by decide), lines_go p1 m1, lines_go p2 m2, lines_go p3 m3]
    simp
  · rw [if_neg h3]
    exact reps_read h r n b no hl
theorem text_line {o : OpM} {s : List UInt8} (h : stepText o = some s) : ∃ line, stepLineM o = some line ∧ s = line ++ [10] := by
  unfold stepText at h
  cases hl : stepLineM o with
  | none => rw [hl] at h; cases h
  | some line =>
    rw [hl] at h
    simp only [Option.map_some, Option.some.injEq] at h
    exact ⟨line, rfl, h.symm⟩
theorem all_read : ∀ (f : Nat) (l : List OpM), l.length ≤ f → ∀ t, printR l = some t → ∀ (b : BlkM) (no : Nat) (r : List UInt8), b.ops.length + l.length ≤ 2000 →
    ∃ no', linesM no (splitM (t ++ r)) [b] = linesM no' (splitM r) [{ b with ops := b.ops ++ l }]
  | _, [], _, t, ht, b, no, r, _ => by
    have : t = [] := by
      have : printR [] = some [] := rfl
      rw [this] at ht
      cases ht; rfl
    subst this
    exact ⟨no, by simp⟩
  | 0, o :: l, h, _, _, _, _, _, _ => by simp at h
  | f + 1, o :: l, h, t, ht, b, no, r, hb => by
    rw [printR_cons] at ht
    simp only [List.length_cons] at h hb
    cases hs : stepText o with
    | none => rw [hs] at ht; cases ht
    | some s =>
      rw [hs] at ht
      dsimp only at ht
      cases hr : printR (l.drop (runLen (opEq o) l)) with
      | none => rw [hr] at ht; cases ht
      | some u =>
        rw [hr] at ht
        simp only [Option.map_some, Option.some.injEq] at ht
        subst ht
        obtain ⟨line, hline, rfl⟩ := text_line hs
        have hle := runLen_le (opEq o) l
        obtain ⟨no1, e1⟩ := run_read hline (u ++ r) (runLen (opEq o) l + 1) b no (by omega) (by omega)
        obtain ⟨no2, e2⟩ := all_read f (l.drop (runLen (opEq o) l)) (by rw [List.length_drop]; omega) u hr { b with ops := b.ops ++ List.replicate (runLen (opEq o) l + 1) o } no1 r (by
          simp only [List.length_append, List.length_replicate, List.length_drop]; omega)
        refine ⟨no2, ?_⟩
        rw [List.append_assoc, e1, e2]
        have e3 : List.replicate (runLen (opEq o) l + 1) o ++ l.drop (runLen (opEq o) l) = o :: l := by
          rw [List.replicate_succ, List.cons_append, ← run_take l]
        dsimp only
        rw [List.append_assoc, e3]
/-- What is written is read back. -/
theorem print_read {l : List OpM} {t : List UInt8} (h : printSc l = some t) : parseSc t = .ok l := by
  have hps : printSc l = if 2000 < l.length then none else match printR l with
    | none => none
    | some t => if 8000 < t.length then none else some t := rfl
  rw [hps] at h
  by_cases h1 : 2000 < l.length
  · rw [if_pos h1] at h; cases h
  rw [if_neg h1] at h
  cases hr : printR l with
  | none => rw [hr] at h; cases h
  | some u =>
    rw [hr] at h
    dsimp only at h
    by_cases h2 : 8000 < u.length
    · rw [if_pos h2] at h; cases h
    rw [if_neg h2] at h
    cases h
    obtain ⟨no', e⟩ := all_read l.length l (Nat.le_refl _) t hr ⟨[], 0, 0, 0⟩ 1 [] (by simp; omega)
    rw [List.append_nil] at e
    unfold parseSc
    rw [if_neg h2, e]
    have : linesM no' (splitM []) [⟨[] ++ l, 0, 0, 0⟩] = .ok [⟨l, 0, 0, 0⟩] := rfl
    rw [this]
end Go.Proofs.YtjlmkahagcojcaaGreatDoor
