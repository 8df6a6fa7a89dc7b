/- Scripts' texts, in plain Lean; and their law: a text in a repeat of n is n times its steps. -/
import Derived.Calls
namespace Go.Proofs.YtjlmkahagcojcaaGreatDoor
/-- A step. -/
structure OpM where
  kind : Int
  a : Int
  b : Int
  keep : List Int
/-- Steps that are open: a repeat's times, its line's number and place. -/
structure BlkM where
  ops : List OpM
  times : Nat
  no : Nat
  place : Nat
def splitM : List UInt8 → List (List UInt8)
  | [] => [[]]
  | c :: t => if c = 10 then [] :: splitM t else (match splitM t with
    | [] => [[c]]
    | l :: r => (c :: l) :: r)
def skipS (r : List UInt8) : List UInt8 := r.dropWhile (· == 32)
def wordS (r : List UInt8) : List UInt8 := (skipS r).takeWhile (· != 32)
def afterS (r : List UInt8) : List UInt8 := (skipS r).dropWhile (· != 32)
def digM : List UInt8 → Nat → Option Nat
  | [], a => some a
  | c :: t, a => if 48 ≤ c.toNat ∧ c.toNat ≤ 57 then digM t (10 * a + (c.toNat - 48)) else none
def numW (minus : Bool) (d : List UInt8) : Option Int :=
  if d.length < 1 ∨ 9 < d.length then none
  else match digM d 0 with
    | none => none
    | some n => some (if minus then -(n : Int) else n)
def numM (signed : Bool) (w : List UInt8) : Option Int :=
  match w with
  | [] => none
  | c :: t => if signed = true ∧ c = 45 then numW true t else numW false w
abbrev PRes (α : Type) := Except (Nat × Int) α
def numberM (L : Nat) (signed : Bool) (r : List UInt8) : PRes (Int × List UInt8) :=
  match numM signed (wordS r) with
  | some n => .ok (n, afterS r)
  | none => .error (L - (skipS r).length, 62)
def endM (L : Nat) (r : List UInt8) : PRes Unit := if wordS r = [] then .ok () else .error (L - (skipS r).length, 61)
def keepM (L : Nat) : Nat → List UInt8 → List Int → PRes (List Int)
  | 0, _, acc => .ok acc
  | k + 1, r, acc => if skipS r = [] then .ok acc else match numberM L true r with
    | .error e => .error e
    | .ok (n, r') => keepM L k r' (acc ++ [n])
def wRepeat : List UInt8 := [114, 101, 112, 101, 97, 116]
def wEnd : List UInt8 := [101, 110, 100]
def wArm : List UInt8 := [97, 114, 109]
def wAfter : List UInt8 := [97, 102, 116, 101, 114]
/-- The steps' words, from kind 1 on, and their numbers. -/
def stepsM : List (List UInt8 × Int) :=
  [([112, 105, 99, 107], 2), ([116, 114, 105, 103, 103, 101, 114], 0), ([112, 111, 115, 116], 0), ([97, 98, 111, 114, 116], 0), ([99, 114, 97, 115, 104], 0),
   ([97, 114, 109], 1), ([102, 97, 105, 108], 1), ([115, 112, 111, 105, 108], 2), ([114, 101, 99, 111, 118, 101, 114], -1)]
def kindM (w : List UInt8) : Nat := match stepsM.findIdx? (fun s => s.1 == w) with
  | some i => i + 1
  | none => 0
def numbersM (k : Nat) : Int := ((stepsM[k - 1]?).map (·.2)).getD 0
def recoverM (L : Nat) (r : List UInt8) : PRes OpM :=
  if wordS r = wArm then match numberM L false (afterS r) with
    | .error e => .error e
    | .ok (n, r') => match keepM L (r'.length + 1) r' [] with
      | .error e => .error e
      | .ok l => .ok ⟨9, n + 1, 0, l⟩
  else match keepM L (r.length + 1) r [] with
    | .error e => .error e
    | .ok l => .ok ⟨9, 0, 0, l⟩
def failM (L : Nat) (r : List UInt8) : PRes OpM :=
  match numberM L true r with
  | .error e => .error e
  | .ok (n, r') =>
    if wordS r' = wAfter then match numberM L true (afterS r') with
      | .error e => .error e
      | .ok (m, r'') => match endM L r'' with
        | .error e => .error e
        | .ok _ => .ok ⟨7, n, m, []⟩
    else if wordS r' = [] then .ok ⟨7, n, 0, []⟩
    else .error (L - (skipS r').length, 61)
def plainM (L : Nat) (k : Nat) (r : List UInt8) : PRes OpM :=
  if numbersM k ≤ 0 then match endM L r with
    | .error e => .error e
    | .ok _ => .ok ⟨k, 0, 0, []⟩
  else match numberM L true r with
    | .error e => .error e
    | .ok (n, r1) => if numbersM k ≤ 1 then match endM L r1 with
        | .error e => .error e
        | .ok _ => .ok ⟨k, n, 0, []⟩
      else match numberM L true r1 with
        | .error e => .error e
        | .ok (m, r2) => match endM L r2 with
          | .error e => .error e
          | .ok _ => .ok ⟨k, n, m, []⟩
def opM (L : Nat) (k : Nat) (r : List UInt8) : PRes OpM :=
  if k = 9 then recoverM L r else if k = 7 then failM L r else plainM L k r
/-- A line that isn't passed over; the innermost block first. -/
def lineM (no : Nat) (l : List UInt8) : List BlkM → PRes (List BlkM)
  | [] => .error (0, 0)
  | top :: below =>
    if wordS l = wRepeat then match numM false (wordS (afterS l)) with
      | none => .error (l.length - (skipS (afterS l)).length, 62)
      | some n => if n < 1 ∨ 2000 < n then .error (l.length - (skipS (afterS l)).length, 62)
        else match endM l.length (afterS (afterS l)) with
          | .error e => .error e
          | .ok _ => .ok (⟨[], n.toNat, no, l.length - (skipS l).length⟩ :: top :: below)
    else if wordS l = wEnd then match below with
      | [] => .error (l.length - (skipS l).length, 66)
      | around :: rest => match endM l.length (afterS l) with
        | .error e => .error e
        | .ok _ => if 2000 < around.ops.length + top.times * top.ops.length then .error (l.length - (skipS l).length, 65)
          else .ok ({ around with ops := around.ops ++ (List.replicate top.times top.ops).flatten } :: rest)
    else if kindM (wordS l) = 0 then .error (l.length - (skipS l).length, 61)
    else match opM l.length (kindM (wordS l)) (afterS l) with
      | .error e => .error e
      | .ok o => if top.ops.length = 2000 then .error (l.length - (skipS l).length, 65)
        else .ok ({ top with ops := top.ops ++ [o] } :: below)
def passed (l : List UInt8) : Bool := match skipS l with
  | [] => true
  | c :: _ => c == 35
def linesM : Nat → List (List UInt8) → List BlkM → Except (Nat × Nat × Int) (List BlkM)
  | _, [], st => .ok st
  | no, l :: ls, st => if passed l then linesM (no + 1) ls st else match lineM no l st with
    | .error (a, c) => .error (no, a, c)
    | .ok st' => linesM (no + 1) ls st'
def parseSc (t : List UInt8) : Except (Nat × Nat × Int) (List OpM) :=
  if 8000 < t.length then .error (0, 0, 60)
  else match linesM 1 (splitM t) [⟨[], 0, 0, 0⟩] with
    | .error e => .error e
    | .ok [b] => .ok b.ops
    | .ok (b :: _) => .error (b.no, b.place, 66)
    | .ok [] => .error (0, 0, 0)
/-! the law -/
def digs : Nat → Nat → List UInt8
  | 0, _ => []
  | f + 1, n => if n = 0 then [] else digs f (n / 10) ++ [UInt8.ofNat (48 + n % 10)]
theorem digM_app : ∀ (l : List UInt8) (c : UInt8) (a : Nat), 48 ≤ c.toNat ∧ c.toNat ≤ 57 → digM (l ++ [c]) a = (digM l a).map fun m => 10 * m + (c.toNat - 48)
  | [], c, a, h => by simp [digM, h]
  | d :: l, c, a, h => by
    show digM (d :: (l ++ [c])) a = _
    unfold digM
    by_cases hd : 48 ≤ d.toNat ∧ d.toNat ≤ 57
    · rw [if_pos hd, if_pos hd]; exact digM_app l c _ h
    · rw [if_neg hd, if_neg hd]; rfl
theorem dig_nat (k : Nat) (h : k < 10) : (UInt8.ofNat (48 + k)).toNat = 48 + k := by
  rw [UInt8.toNat_ofNat']; omega
theorem digs_val : ∀ (f n : Nat), n < 10 ^ f → digM (digs f n) 0 = some n
  | 0, n, h => by
    have : n = 0 := by simpa using h
    subst this; rfl
  | f + 1, n, h => by
    unfold digs
    by_cases h0 : n = 0
    · rw [if_pos h0, h0]; rfl
    · have hd := dig_nat (n % 10) (Nat.mod_lt _ (by decide))
      rw [if_neg h0, digM_app _ _ _ (by omega), digs_val f (n / 10) (by rw [Nat.pow_succ] at h; omega), hd]
      show some (10 * (n / 10) + (48 + n % 10 - 48)) = _
      congr 1; omega
theorem digs_len : ∀ (f n : Nat), (digs f n).length ≤ f
  | 0, _ => by simp [digs]
  | f + 1, n => by
    unfold digs
    split
    · simp
    · have := digs_len f (n / 10)
      simp; omega
theorem digs_pos (f n : Nat) (h : n ≠ 0) : 1 ≤ (digs (f + 1) n).length := by
  unfold digs
  rw [if_neg h]; simp
theorem digs_mem : ∀ (f n : Nat), ∀ c ∈ digs f n, 48 ≤ c.toNat ∧ c.toNat ≤ 57
  | 0, _, c, h => by simp [digs] at h
  | f + 1, n, c, h => by
    unfold digs at h
    split at h
    · cases h
    · rcases List.mem_append.1 h with h | h
      · exact digs_mem f _ c h
      · rw [List.mem_singleton] at h
        subst h
        have := dig_nat (n % 10) (Nat.mod_lt _ (by decide))
        omega
theorem split_ne (t : List UInt8) : splitM t ≠ [] := by
  cases t with
  | nil => simp [splitM]
  | cons c t =>
    unfold splitM
    split
    · simp
    · split <;> simp
theorem split_line : ∀ (l r : List UInt8), (∀ c ∈ l, c ≠ 10) → splitM (l ++ 10 :: r) = l :: splitM r
  | [], r, _ => by simp [splitM]
  | c :: l, r, h => by
    have hc := h c (.head _)
    have ih := split_line l r fun d hd => h d (.tail _ hd)
    show splitM (c :: (l ++ 10 :: r)) = _
    rw [splitM, if_neg hc, ih]
theorem split_app : ∀ (t r : List UInt8), splitM (t ++ 10 :: r) = splitM t ++ splitM r
  | [], r => by simp [splitM]
  | c :: t, r => by
    have ih := split_app t r
    show splitM (c :: (t ++ 10 :: r)) = _
    by_cases hc : c = 10
    · rw [show splitM (c :: (t ++ 10 :: r)) = [] :: splitM (t ++ 10 :: r) by rw [splitM, if_pos hc], ih, show splitM (c :: t) = [] :: splitM t by rw [splitM, if_pos hc]]
      rfl
    · rw [show splitM (c :: (t ++ 10 :: r)) = (match splitM (t ++ 10 :: r) with | [] => [[c]] | l :: r => (c :: l) :: r) by rw [splitM, if_neg hc], ih,
        show splitM (c :: t) = (match splitM t with | [] => [[c]] | l :: r => (c :: l) :: r) by rw [splitM, if_neg hc]]
      cases h : splitM t with
      | nil => exact absurd h (split_ne t)
      | cons l ls => rfl
theorem split_len (t : List UInt8) : (splitM t).length = (t.filter (· == 10)).length + 1 := by
  induction t with
  | nil => rfl
  | cons c t ih =>
    unfold splitM
    by_cases hc : c = 10
    · rw [if_pos hc, List.length_cons, ih, List.filter_cons_of_pos (by rw [hc]; rfl), List.length_cons]
    · rw [if_neg hc, List.filter_cons_of_neg (by simpa using hc)]
      cases h : splitM t with
      | nil => exact absurd h (split_ne t)
      | cons l ls => rw [h] at ih; simpa using ih
/-- The same open steps, over one block more. -/
inductive Sim (root : BlkM) (n : Nat) : List BlkM → List BlkM → Prop
  | base (b b' : BlkM) : b'.ops = b.ops → b'.times = n → Sim root n [b] [b', root]
  | cons (t t' : BlkM) (S S' : List BlkM) : t'.ops = t.ops → t'.times = t.times → Sim root n S S' → Sim root n (t :: S) (t' :: S')
theorem line_over {root : BlkM} {n no no' : Nat} {l : List UInt8} {S S' S1 : List BlkM} (hS : Sim root n S S') (h : lineM no l S = .ok S1) : ∃ S1', lineM no' l S' = .ok S1' ∧ Sim root n S1 S1' := by
  have op : ∀ (t t' : BlkM) (B B' : List BlkM) (g : List BlkM → List BlkM → Prop), t'.ops = t.ops → (∀ o, g ({ t with ops := t.ops ++ [o] } :: B) ({ t' with ops := t'.ops ++ [o] } :: B')) →
      (match opM l.length (kindM (wordS l)) (afterS l) with
        | .error e => (.error e : PRes (List BlkM))
        | .ok o => if t.ops.length = 2000 then .error (l.length - (skipS l).length, 65) else .ok ({ t with ops := t.ops ++ [o] } :: B)) = .ok S1 →
      ∃ S1', (match opM l.length (kindM (wordS l)) (afterS l) with
        | .error e => (.error e : PRes (List BlkM))
        | .ok o => if t'.ops.length = 2000 then .error (l.length - (skipS l).length, 65) else .ok ({ t' with ops := t'.ops ++ [o] } :: B')) = .ok S1' ∧ g S1 S1' := by
    intro t t' B B' g ht hg h
    cases ho : opM l.length (kindM (wordS l)) (afterS l) with
    | error e => rw [ho] at h; cases h
    | ok o =>
      rw [ho] at h
      dsimp only at h ⊢
      by_cases hl : t.ops.length = 2000
      · rw [if_pos hl] at h; cases h
      · rw [if_neg hl] at h
        cases h
        rw [if_neg (by rw [ht]; exact hl)]
        exact ⟨_, rfl, hg o⟩
  have rep : ∀ (t t' : BlkM) (B B' : List BlkM), Sim root n (t :: B) (t' :: B') →
      (match numM false (wordS (afterS l)) with
      | none => (.error (l.length - (skipS (afterS l)).length, 62) : PRes (List BlkM))
      | some n => if n < 1 ∨ 2000 < n then .error (l.length - (skipS (afterS l)).length, 62)
        else match endM l.length (afterS (afterS l)) with
          | .error e => .error e
          | .ok _ => .ok (⟨[], n.toNat, no, l.length - (skipS l).length⟩ :: t :: B)) = .ok S1 →
      ∃ S1', (match numM false (wordS (afterS l)) with
      | none => (.error (l.length - (skipS (afterS l)).length, 62) : PRes (List BlkM))
      | some n => if n < 1 ∨ 2000 < n then .error (l.length - (skipS (afterS l)).length, 62)
        else match endM l.length (afterS (afterS l)) with
          | .error e => .error e
          | .ok _ => .ok (⟨[], n.toNat, no', l.length - (skipS l).length⟩ :: t' :: B')) = .ok S1' ∧ Sim root n S1 S1' := by
    intro t t' B B' hS h
    cases hn : numM false (wordS (afterS l)) with
    | none => rw [hn] at h; cases h
    | some m =>
      rw [hn] at h
      dsimp only at h ⊢
      by_cases hm : m < 1 ∨ 2000 < m
      · rw [if_pos hm] at h; cases h
      · rw [if_neg hm] at h ⊢
        cases he : endM l.length (afterS (afterS l)) with
        | error e => rw [he] at h; cases h
        | ok u =>
          rw [he] at h
          cases h
          exact ⟨_, rfl, .cons _ _ _ _ rfl rfl hS⟩
  cases hS with
  | base b b' h1 h2 =>
    unfold lineM at h ⊢
    dsimp only at h ⊢
    by_cases c1 : wordS l = wRepeat
    · rw [if_pos c1] at h ⊢
      exact rep b b' [] [root] (.base b b' h1 h2) h
    rw [if_neg c1] at h ⊢
    by_cases c2 : wordS l = wEnd
    · rw [if_pos c2] at h; cases h
    rw [if_neg c2] at h ⊢
    by_cases c3 : kindM (wordS l) = 0
    · rw [if_pos c3] at h; cases h
    rw [if_neg c3] at h ⊢
    exact op b b' [] [root] (Sim root n) h1 (fun o => .base _ _ (by rw [h1]) h2) h
  | cons t t' S S' h1 h2 hS =>
    unfold lineM at h ⊢
    dsimp only at h ⊢
    by_cases c1 : wordS l = wRepeat
    · rw [if_pos c1] at h ⊢
      exact rep t t' S S' (.cons t t' S S' h1 h2 hS) h
    rw [if_neg c1] at h ⊢
    by_cases c2 : wordS l = wEnd
    · rw [if_pos c2] at h ⊢
      cases he : endM l.length (afterS l) with
      | error e => cases hS <;> (rw [he] at h; cases h)
      | ok u =>
        cases hS with
        | base b b' k1 k2 =>
          rw [he] at h
          dsimp only at h ⊢
          rw [h1, h2, k1]
          by_cases hl : 2000 < b.ops.length + t.times * t.ops.length
          · rw [if_pos hl] at h; cases h
          · rw [if_neg hl] at h
            rw [if_neg hl]
            cases h
            exact ⟨_, rfl, .base _ _ rfl k2⟩
        | cons b b' S S' k1 k2 hS =>
          rw [he] at h
          dsimp only at h ⊢
          rw [h1, h2, k1]
          by_cases hl : 2000 < b.ops.length + t.times * t.ops.length
          · rw [if_pos hl] at h; cases h
          · rw [if_neg hl] at h
            rw [if_neg hl]
            cases h
            exact ⟨_, rfl, .cons _ _ _ _ rfl k2 hS⟩
    rw [if_neg c2] at h ⊢
    by_cases c3 : kindM (wordS l) = 0
    · rw [if_pos c3] at h; cases h
    rw [if_neg c3] at h ⊢
    exact op t t' S S' (Sim root n) h1 (fun o => .cons _ _ _ _ (by rw [h1]) h2 hS) h
theorem lines_over {root : BlkM} {n : Nat} : ∀ (ls : List (List UInt8)) (no no' : Nat) (S S' S1 : List BlkM), Sim root n S S' → linesM no ls S = .ok S1 → ∃ S1', (∀ rest, linesM no' (ls ++ rest) S' = linesM (no' + ls.length) rest S1') ∧ Sim root n S1 S1'
  | [], no, no', S, S', S1, hS, h => by
    unfold linesM at h
    cases h
    exact ⟨S', fun rest => rfl, hS⟩
  | l :: ls, no, no', S, S', S1, hS, h => by
    unfold linesM at h
    by_cases hp : passed l = true
    · rw [if_pos hp] at h
      obtain ⟨S1', h1, h2⟩ := lines_over ls (no + 1) (no' + 1) S S' S1 hS h
      refine ⟨S1', fun rest => ?_, h2⟩
      show linesM no' (l :: (ls ++ rest)) S' = _
      rw [linesM, if_pos hp, h1 rest, List.length_cons]
      congr 1; omega
    · rw [if_neg hp] at h
      cases hl : lineM no l S with
      | error e => rw [hl] at h; cases h
      | ok S2 =>
        rw [hl] at h
        obtain ⟨S2', k1, k2⟩ := line_over (no' := no') hS hl
        obtain ⟨S1', h1, h2⟩ := lines_over ls (no + 1) (no' + 1) S2 S2' S1 k2 h
        refine ⟨S1', fun rest => ?_, h2⟩
        show linesM no' (l :: (ls ++ rest)) S' = _
        rw [linesM, if_neg hp, k1]
        show linesM (no' + 1) (ls ++ rest) S2' = _
        rw [h1 rest, List.length_cons]
        congr 1; omega
theorem skip_id {c : UInt8} {t : List UInt8} (h : c ≠ 32) : skipS (c :: t) = c :: t := by
  unfold skipS
  rw [List.dropWhile_cons, if_neg (by simpa using h)]
theorem take_sp : ∀ (w r : List UInt8), (∀ c ∈ w, c ≠ 32) → (w ++ 32 :: r).takeWhile (· != 32) = w ∧ (w ++ 32 :: r).dropWhile (· != 32) = 32 :: r
  | [], r, _ => by simp
  | c :: w, r, h => by
    have hc := h c (.head _)
    obtain ⟨h1, h2⟩ := take_sp w r fun d hd => h d (.tail _ hd)
    rw [List.cons_append, List.takeWhile_cons, List.dropWhile_cons, if_pos (by simpa using hc), if_pos (by simpa using hc), h1, h2]
    exact ⟨rfl, rfl⟩
theorem take_all : ∀ (w : List UInt8), (∀ c ∈ w, c ≠ 32) → w.takeWhile (· != 32) = w ∧ w.dropWhile (· != 32) = []
  | [], _ => by simp
  | c :: w, h => by
    have hc := h c (.head _)
    obtain ⟨h1, h2⟩ := take_all w fun d hd => h d (.tail _ hd)
    rw [List.takeWhile_cons, List.dropWhile_cons, if_pos (by simpa using hc), if_pos (by simpa using hc), h1, h2]
    exact ⟨rfl, rfl⟩
/-- A script's text put into a repeat of n is n times its steps, where these are no more than there may be; else it is refused at the last line. -/
theorem repeat_law (t : List UInt8) (n : Nat) (h1 : 1 ≤ n) (h2 : n ≤ 2000) (ht : t.length ≤ 7900) (o : List OpM) (h : parseSc t = .ok o) :
    parseSc ((wRepeat ++ 32 :: digs 4 n) ++ 10 :: (t ++ 10 :: wEnd)) = if 2000 < n * o.length then .error ((splitM t).length + 2, 0, 65) else .ok (List.replicate n o).flatten := by
  have hdl := digs_len 4 n
  have hdp := digs_pos 3 n (by omega)
  have hdm := digs_mem 4 n
  have hdv := digs_val 4 n (by omega)
  generalize digs 4 n = ds at *
  obtain ⟨d0, dt, rfl⟩ : ∃ d0 dt, ds = d0 :: dt := by
    cases ds with
    | nil => simp at hdp
    | cons a b => exact ⟨a, b, rfl⟩
  have d32 : ∀ c ∈ d0 :: dt, c ≠ 32 := fun c hc e => by have := hdm c hc; subst e; simp at this
  have d10 : ∀ c ∈ d0 :: dt, c ≠ 10 := fun c hc e => by have := hdm c hc; subst e; simp at this
  have hsk : skipS (wRepeat ++ 32 :: d0 :: dt) = wRepeat ++ 32 :: d0 :: dt := skip_id (by decide)
  have hw : wordS (wRepeat ++ 32 :: d0 :: dt) = wRepeat := by
    unfold wordS; rw [hsk]; exact (take_sp wRepeat _ (by decide)).1
  have ha : afterS (wRepeat ++ 32 :: d0 :: dt) = 32 :: d0 :: dt := by
    unfold afterS; rw [hsk]; exact (take_sp wRepeat _ (by decide)).2
  have hs2 : skipS (32 :: d0 :: dt) = d0 :: dt := by
    show List.dropWhile _ (32 :: d0 :: dt) = _
    rw [List.dropWhile_cons, if_pos (by decide)]
    exact skip_id (d32 d0 (.head _))
  have hw2 : wordS (32 :: d0 :: dt) = d0 :: dt := by
    unfold wordS; rw [hs2]; exact (take_all _ d32).1
  have ha2 : afterS (32 :: d0 :: dt) = [] := by
    unfold afterS; rw [hs2]; exact (take_all _ d32).2
  have hnum : numM false (d0 :: dt) = some (n : Int) := by
    unfold numM
    dsimp only
    rw [if_neg (by simp)]
    unfold numW
    rw [if_neg (by omega), hdv]
    rfl
  have hsplit : splitM ((wRepeat ++ 32 :: d0 :: dt) ++ 10 :: (t ++ 10 :: wEnd)) = (wRepeat ++ 32 :: d0 :: dt) :: (splitM t ++ [wEnd]) := by
    rw [split_line _ _ (by
      intro c hc
      rcases List.mem_append.1 hc with hc | hc
      · exact (show ∀ c ∈ wRepeat, c ≠ 10 by decide) c hc
      · rcases List.mem_cons.1 hc with rfl | hc
        · decide
        · exact d10 c hc), split_app]
    rfl
  have hlen : ((wRepeat ++ 32 :: d0 :: dt) ++ 10 :: (t ++ 10 :: wEnd)).length ≤ 8000 := by
    have e1 : wRepeat.length = 6 := rfl
    have e2 : wEnd.length = 3 := rfl
    simp only [List.length_append, List.length_cons, e1, e2] at hdl ⊢
    omega
  unfold parseSc at h ⊢
  rw [if_neg (by omega)] at h
  rw [if_neg (by omega), hsplit]
  have hp0 : passed (wRepeat ++ 32 :: d0 :: dt) = false := by unfold passed; rw [hsk]; rfl
  have hl0 : ∀ no st, lineM no (wRepeat ++ 32 :: d0 :: dt) [st] = .ok [⟨[], n, no, 0⟩, st] := by
    intro no st
    unfold lineM
    dsimp only
    rw [if_pos hw, ha, hw2, hnum]
    dsimp only
    rw [if_neg (by omega), ha2]
    have e0 : (wRepeat ++ 32 :: d0 :: dt).length - (skipS (wRepeat ++ 32 :: d0 :: dt)).length = 0 := by rw [hsk]; omega
    rw [e0]
    rfl
  rw [linesM, if_neg (by rw [hp0]; decide), hl0]
  dsimp only
  cases hr : linesM 1 (splitM t) [⟨[], 0, 0, 0⟩] with
  | error e => rw [hr] at h; cases h
  | ok S1 =>
    rw [hr] at h
    obtain ⟨S1', k1, k2⟩ := lines_over (root := ⟨[], 0, 0, 0⟩) (n := n) (splitM t) 1 2 [⟨[], 0, 0, 0⟩] [⟨[], n, 1, 0⟩, ⟨[], 0, 0, 0⟩] S1 (.base _ _ rfl rfl) hr
    rw [k1]
    cases k2 with
    | cons t' t'' S S' _ _ hS =>
      exfalso
      cases hS <;> cases h
    | base b b' e1 e2 =>
      cases h
      have hpe : passed wEnd = false := by decide
      rw [linesM, if_neg (by rw [hpe]; decide)]
      have hle : lineM (2 + (splitM t).length) wEnd [b', ⟨[], 0, 0, 0⟩] = if 2000 < n * b.ops.length then .error (0, 65) else .ok [⟨(List.replicate n b.ops).flatten, 0, 0, 0⟩] := by
        unfold lineM
        dsimp only
        rw [if_neg (by decide), if_pos (by decide)]
        have he : endM wEnd.length (afterS wEnd) = .ok () := rfl
        have h0 : wEnd.length - (skipS wEnd).length = 0 := by decide
        rw [he, h0, e1, e2]
        simp
      rw [hle]
      by_cases hm : 2000 < n * b.ops.length
      · rw [if_pos hm, if_pos hm]
        show Except.error (2 + (splitM t).length, 0, 65) = _
        rw [Nat.add_comm]
      · rw [if_neg hm, if_neg hm]
        rfl
end Go.Proofs.YtjlmkahagcojcaaGreatDoor
