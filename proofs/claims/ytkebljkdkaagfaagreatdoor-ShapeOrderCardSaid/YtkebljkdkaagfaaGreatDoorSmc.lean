/- Plain law of graphs (no program in sight): a spread tells all that a way of less than n edges reaches; where it finds no cycle, of each set of places one has no edge from within. Plain law of an order (no program in sight): of a graph without cycles the places are laid one by one, each behind all that lead to it, till all are laid. Plain law of plans (no program in sight): of a plan that passes the checks a source and a sink are there. -/
import Derived.Test.YtkebljkdkaagfaaGreatDoorMem
namespace Go.Proofs.YtkebljkdkaagfaaGreatDoor.S
open Go
set_option maxRecDepth 100000
/-! ### Places and ways -/
theorem pigeon : ∀ (n : Nat) (f : Nat → Nat), (∀ i, i ≤ n → f i < n) → ∃ i j, i < j ∧ j ≤ n ∧ f i = f j
  | 0, f, h => absurd (h 0 (Nat.le_refl _)) (by omega)
  | n + 1, f, h => by
    by_cases hd : ∃ i, i ≤ n ∧ f i = f (n + 1)
    · obtain ⟨i, hi, he⟩ := hd
      exact ⟨i, n + 1, by omega, Nat.le_refl _, he⟩
    · have hne : ∀ i, i ≤ n → f i ≠ f (n + 1) := fun i hi he => hd ⟨i, hi, he⟩
      obtain ⟨i, j, hij, hj, he⟩ := pigeon n (fun i => if f i = n then f (n + 1) else f i) (fun i hi => by
        have h1 := h i (by omega)
        have h2 := h (n + 1) (Nat.le_refl _)
        have h3 := hne i hi
        split <;> omega)
      refine ⟨i, j, hij, by omega, ?_⟩
      have h1 := hne i (by omega)
      have h2 := hne j hj
      split at he <;> split at he <;> omega
/-- An edge: from, to. -/
abbrev Gr := List (Nat × Nat)
inductive Way (G : Gr) : Nat → Nat → Nat → Prop
  | here (a : Nat) : Way G a a 0
  | step {a b c k : Nat} (h : Way G a b k) (e : (b, c) ∈ G) : Way G a c (k + 1)
theorem Way.behind {G : Gr} {a b c k : Nat} (e : (a, b) ∈ G) (h : Way G b c k) : Way G a c (k + 1) := by
  induction h with
  | here => exact .step (.here a) e
  | step h e' ih => exact .step ih e'
/-! ### A spread: by place how far it is, -1: not reached -/
def relax1 (d : Nat) (far : List Int) (e : Nat × Nat) : List Int := if far[e.1]? = some (d : Int) ∧ (∃ v, far[e.2]? = some v ∧ v < 0) then far.set e.2 (d + 1 : Nat) else far
instance (far : List Int) (b : Nat) : Decidable (∃ v, far[b]? = some v ∧ v < 0) := decidable_of_iff (far[b]?.any (· < 0) = true) (by cases h : far[b]? <;> simp)
def relax (G : Gr) (d : Nat) (far : List Int) : List Int := G.foldl (relax1 d) far
def farAt (G : Gr) (n t : Nat) : Nat → List Int
  | 0 => (List.replicate n (-1)).set t 0
  | d + 1 => relax G d (farAt G n t d)
/-- What a round leaves: what was told stays; what is newly told is d + 1. -/
def Grown (d : Nat) (l l' : List Int) : Prop := l'.length = l.length ∧ ∀ (x : Nat) (v : Int), l'[x]? = some v → l[x]? = some v ∨ (v = (d + 1 : Nat) ∧ ∃ u, l[x]? = some u ∧ u < 0)
theorem Grown.refl (d : Nat) (l : List Int) : Grown d l l := ⟨rfl, fun _ _ h => .inl h⟩
theorem Grown.keep {d : Nat} {l l' : List Int} (h : Grown d l l') {x : Nat} {v : Int} (hv : l[x]? = some v) (h0 : 0 ≤ v) : l'[x]? = some v := by
  have hx : x < l'.length := by rw [h.1]; exact (List.getElem?_eq_some_iff.1 hv).1
  rcases h.2 x _ (List.getElem?_eq_getElem hx) with h1 | ⟨h1, u, h2, h3⟩
  · rw [List.getElem?_eq_getElem hx, ← h1, hv]
  · rw [hv] at h2; cases h2; omega
theorem Grown.trans {d : Nat} {a b c : List Int} (h : Grown d a b) (k : Grown d b c) : Grown d a c := by
  refine ⟨k.1.trans h.1, fun x v hv => ?_⟩
  rcases k.2 x v hv with h1 | ⟨h1, u, h2, h3⟩
  · exact h.2 x v h1
  · rcases h.2 x u h2 with h4 | ⟨h4, _⟩
    · exact .inr ⟨h1, u, h4, h3⟩
    · omega
theorem relax1_grown (d : Nat) (far : List Int) (e : Nat × Nat) : Grown d far (relax1 d far e) := by
  unfold relax1
  split
  · rename_i h
    obtain ⟨_, u, hu, h0⟩ := h
    refine ⟨by simp, fun x v hv => ?_⟩
    by_cases hx : e.2 = x
    · subst hx
      have hl := (List.getElem?_eq_some_iff.1 hu).1
      rw [List.getElem?_set_self hl] at hv
      cases hv
      exact .inr ⟨rfl, u, hu, h0⟩
    · rw [List.getElem?_set_ne hx] at hv
      exact .inl hv
  · exact Grown.refl _ _
theorem relax_grown (d : Nat) : ∀ (G : Gr) (far : List Int), Grown d far (relax G d far)
  | [], far => Grown.refl _ _
  | e :: r, far => (relax1_grown d far e).trans (relax_grown d r (relax1 d far e))
theorem relax_hit {d : Nat} : ∀ (G : Gr) (far : List Int) {a b : Nat}, (a, b) ∈ G → far[a]? = some (d : Int) → b < far.length → ∃ v, (relax G d far)[b]? = some v ∧ 0 ≤ v
  | e :: r, far, a, b, he, ha, hb => by
    have hg := relax1_grown d far e
    rcases List.mem_cons.1 he with rfl | he
    · have : ∃ v, (relax1 d far (a, b))[b]? = some v ∧ 0 ≤ v := by
        have hv := List.getElem?_eq_getElem hb
        by_cases h0 : far[b] < 0
        · unfold relax1
          rw [if_pos ⟨ha, _, hv, h0⟩, List.getElem?_set_self hb]
          exact ⟨_, rfl, by omega⟩
        · exact ⟨_, hg.keep hv (by omega), by omega⟩
      obtain ⟨v, hv, h0⟩ := this
      exact ⟨v, (relax_grown d r _).keep hv h0, h0⟩
    · exact relax_hit r _ he (hg.keep ha (by omega)) (by first | (rw [hg.1]; exact hb) | (have := hg.1; omega))
theorem farAt_len (G : Gr) (n t : Nat) : ∀ d, (farAt G n t d).length = n
  | 0 => by simp [farAt]
  | d + 1 => (relax_grown d G _).1.trans (farAt_len G n t d)
theorem farAt_le (G : Gr) (n t : Nat) : ∀ (d x : Nat) (v : Int), (farAt G n t d)[x]? = some v → -1 ≤ v ∧ v ≤ d
  | 0, x, v, h => by
    unfold farAt at h
    by_cases hx : t = x
    · subst hx
      have hl : t < (List.replicate n (-1 : Int)).length := by
        have := (List.getElem?_eq_some_iff.1 h).1
        simpa using this
      rw [List.getElem?_set_self hl] at h
      cases h
      omega
    · rw [List.getElem?_set_ne hx, List.getElem?_replicate] at h
      split at h
      · cases h; omega
      · cases h
  | d + 1, x, v, h => by
    rcases (relax_grown d G _).2 x v h with h1 | ⟨h1, _⟩
    · have := farAt_le G n t d x v h1; omega
    · omega
/-- What is told to be at v was told so at the v-th round. -/
theorem farAt_when (G : Gr) (n t : Nat) : ∀ (d x v : Nat), (farAt G n t d)[x]? = some (v : Int) → (farAt G n t v)[x]? = some (v : Int)
  | 0, x, v, h => by
    have := farAt_le G n t 0 x v h
    obtain rfl : v = 0 := by omega
    exact h
  | d + 1, x, v, h => by
    rcases (relax_grown d G _).2 x v h with h1 | ⟨h1, _⟩
    · exact farAt_when G n t d x v h1
    · obtain rfl : v = d + 1 := by omega
      exact h
theorem farAt_keep (G : Gr) (n t : Nat) {d x : Nat} {v : Int} (h : (farAt G n t d)[x]? = some v) (h0 : 0 ≤ v) : ∀ k, (farAt G n t (d + k))[x]? = some v
  | 0 => h
  | k + 1 => (relax_grown _ G _).keep (farAt_keep G n t h h0 k) h0
/-- A way of k edges: at the k-th round its end is told. -/
theorem way_far {G : Gr} {n t x k : Nat} (hG : ∀ e ∈ G, e.2 < n) (ht : t < n) (h : Way G t x k) : ∃ v : Nat, v ≤ k ∧ (farAt G n t k)[x]? = some (v : Int) := by
  induction h with
  | here => exact ⟨0, Nat.le_refl _, by unfold farAt; rw [List.getElem?_set_self (by simpa using ht)]; rfl⟩
  | @step b c k hw he ih =>
    obtain ⟨v, hv, hf⟩ := ih
    have h1 := farAt_when G n t k b v hf
    obtain ⟨u, hu, h0⟩ := relax_hit (d := v) G (farAt G n t v) he h1 (by rw [farAt_len]; exact hG _ he)
    have h2 : (farAt G n t (v + 1))[c]? = some u := hu
    have h3 := farAt_keep G n t h2 h0 (k - v)
    rw [show v + 1 + (k - v) = k + 1 by omega] at h3
    have h4 := farAt_le G n t (k + 1) c u h3
    exact ⟨u.toNat, by omega, by rw [h3]; congr 1; omega⟩
/-- No cycle was found: of each place t, nothing that its spread tells in the first n rounds leads to t. -/
def NoCyc (G : Gr) (n : Nat) : Prop := ∀ t, t < n → ∀ d, d < n → ∀ x, (farAt G n t d)[x]? = some (d : Int) → (x, t) ∉ G
theorem no_way {G : Gr} {n t x k : Nat} (hG : ∀ e ∈ G, e.2 < n) (hN : NoCyc G n) (ht : t < n) (h : Way G t x k) (hk : k < n) : (x, t) ∉ G := by
  obtain ⟨v, hv, hf⟩ := way_far hG ht h
  exact hN t ht v (by omega) x (farAt_when G n t k x v hf)
/-- Of each set of places one has no edge from within. -/
theorem free_there {G : Gr} {n : Nat} (hG : ∀ e ∈ G, e.2 < n) (hN : NoCyc G n) (U : Nat → Prop) (hU : ∀ u, U u → u < n) (hne : ∃ u, U u) : ∃ u, U u ∧ ∀ a, (a, u) ∈ G → ¬ U a := by
  apply Classical.byContradiction
  intro hno
  have hp : ∀ u : { u // U u }, ∃ a : { u // U u }, (a.1, u.1) ∈ G := fun ⟨u, hu⟩ => by
    apply Classical.byContradiction
    intro h
    exact hno ⟨u, hu, fun a he ha => h ⟨⟨a, ha⟩, he⟩⟩
  obtain ⟨p, hp⟩ := Classical.axiomOfChoice hp
  obtain ⟨u0, h0⟩ := hne
  let f : Nat → { u // U u } := fun k => Nat.rec ⟨u0, h0⟩ (fun _ u => p u) k
  have hf : ∀ k, ((f (k + 1)).1, (f k).1) ∈ G := fun k => hp (f k)
  have way : ∀ k i, Way G (f (i + k)).1 (f i).1 k := by
    intro k
    induction k with
    | zero => exact fun i => .here _
    | succ k ih => exact fun i => .behind (hf (i + k)) (ih i)
  obtain ⟨i, j, hij, hj, he⟩ := pigeon n (fun k => (f k).1) (fun k _ => hU _ (f k).2)
  have hw := way (j - i - 1) (i + 1)
  rw [show i + 1 + (j - i - 1) = j by omega] at hw
  refine no_way hG hN (hU _ (f j).2) hw (by omega) ?_
  rw [← he]
  exact hf i
/-- Of each set of places one has no edge into it. -/
theorem last_of {G : Gr} {n : Nat} (hG : ∀ e ∈ G, e.2 < n) (hN : NoCyc G n) (U : Nat → Prop) (hU : ∀ u, U u → u < n) (hne : ∃ u, U u) : ∃ u, U u ∧ ∀ b, (u, b) ∈ G → ¬ U b := by
  apply Classical.byContradiction
  intro hno
  have hp : ∀ u : { u // U u }, ∃ b : { u // U u }, (u.1, b.1) ∈ G := fun ⟨u, hu⟩ => by
    apply Classical.byContradiction
    intro h
    exact hno ⟨u, hu, fun b he hb => h ⟨⟨b, hb⟩, he⟩⟩
  obtain ⟨p, hp⟩ := Classical.axiomOfChoice hp
  obtain ⟨u0, h0⟩ := hne
  let f : Nat → { u // U u } := fun k => Nat.rec ⟨u0, h0⟩ (fun _ u => p u) k
  have hf : ∀ k, ((f k).1, (f (k + 1)).1) ∈ G := fun k => hp (f k)
  have way : ∀ k i, Way G (f i).1 (f (i + k)).1 k := by
    intro k
    induction k with
    | zero => exact fun i => .here _
    | succ k ih => exact fun i => .step (ih i) (hf (i + k))
  obtain ⟨i, j, hij, hj, he⟩ := pigeon n (fun k => (f k).1) (fun k _ => hU _ (f k).2)
  have hw := way (j - i - 1) i
  rw [show i + (j - i - 1) = j - 1 by omega] at hw
  refine no_way hG hN (hU _ (f i).2) hw (by omega) ?_
  rw [he]
  have := hf (j - 1)
  rw [show j - 1 + 1 = j by omega] at this
  exact this
end Go.Proofs.YtkebljkdkaagfaaGreatDoor.S
namespace Go.Proofs.YtkebljkdkaagfaaGreatDoor.S
open Go
set_option maxRecDepth 100000
theorem unlaid {n : Nat} {o : List Nat} (hl : o.length < n) : ∃ t, t < n ∧ t ∉ o := by
  apply Classical.byContradiction
  intro hno
  have hin : ∀ t, t < n → t ∈ o := fun t ht => Classical.byContradiction fun h => hno ⟨t, ht, h⟩
  have hg : ∀ t, t < n → ∃ i, o[i]? = some t := fun t ht => by
    obtain ⟨i, hi, he⟩ := List.getElem_of_mem (hin t ht)
    exact ⟨i, by rw [List.getElem?_eq_getElem hi, he]⟩
  have hc : ∀ t, ∃ i, t < n → o[i]? = some t := fun t => by
    by_cases ht : t < n
    · obtain ⟨i, hi⟩ := hg t ht; exact ⟨i, fun _ => hi⟩
    · exact ⟨0, fun h => absurd h ht⟩
  obtain ⟨f, hf⟩ := Classical.axiomOfChoice hc
  obtain ⟨i, j, hij, hj, he⟩ := pigeon o.length f (fun i hi => by
    have := hf i (by omega)
    exact (List.getElem?_eq_some_iff.1 this).1)
  have h1 := hf i (by omega)
  have h2 := hf j (by omega)
  rw [he, h2] at h1
  cases h1
  omega
/-- May t be laid behind o? -/
def freeB (G : Gr) (o : List Nat) (t : Nat) : Bool := !o.contains t && G.all fun e => e.2 != t || o.contains e.1
def nextF (G : Gr) (n : Nat) (o : List Nat) : Option Nat := (List.range n).find? (freeB G o)
def orderM (G : Gr) (n : Nat) : Nat → List Nat
  | 0 => []
  | k + 1 => match nextF G n (orderM G n k) with
    | some t => orderM G n k ++ [t]
    | none => orderM G n k
/-- Laid well. -/
structure Laid (G : Gr) (n : Nat) (o : List Nat) : Prop where
  nodup : o.Nodup
  low : ∀ t ∈ o, t < n
  behind : ∀ l b r, o = l ++ b :: r → ∀ a, (a, b) ∈ G → a ∈ l
theorem laid_nil (G : Gr) (n : Nat) : Laid G n [] := ⟨List.nodup_nil, fun _ h => (nomatch h), fun l b r h => by cases l <;> cases h⟩
theorem laid_snoc {G : Gr} {n : Nat} {o : List Nat} {t : Nat} (h : Laid G n o) (ht : t < n) (hf : freeB G o t = true) : Laid G n (o ++ [t]) := by
  unfold freeB at hf
  simp only [Bool.and_eq_true, Bool.not_eq_true', List.all_eq_true, Bool.or_eq_true, bne_iff_ne, List.contains_iff_mem] at hf
  obtain ⟨hn, ha⟩ := hf
  have hn : t ∉ o := by simpa using hn
  refine ⟨?_, fun x hx => ?_, fun l b r he a hab => ?_⟩
  · rw [List.nodup_append]
    refine ⟨h.nodup, by simp, fun x hx y hy => ?_⟩
    rw [List.mem_singleton] at hy
    rintro rfl
    exact hn (hy ▸ hx)
  · rcases List.mem_append.1 hx with hx | hx
    · exact h.low x hx
    · rw [List.mem_singleton] at hx; omega
  · rcases List.eq_nil_or_concat r with rfl | ⟨r', z, rfl⟩
    · obtain ⟨rfl, e2⟩ := List.append_inj' he rfl
      cases e2
      rcases ha _ hab with h1 | h1
      · exact absurd rfl h1
      · exact h1
    · rw [List.concat_eq_append, ← List.cons_append, ← List.append_assoc] at he
      obtain ⟨e1, -⟩ := List.append_inj' he rfl
      exact h.behind l b r' e1 a hab
theorem nextF_some {G : Gr} {n : Nat} {o : List Nat} (hG : ∀ e ∈ G, e.2 < n ∧ e.1 < n) (hN : NoCyc G n) (hl : o.length < n) : ∃ t, nextF G n o = some t ∧ t < n ∧ freeB G o t = true := by
  obtain ⟨u, hu, hfree⟩ := free_there (fun e he => (hG e he).1) hN (fun t => t < n ∧ t ∉ o) (fun u h => h.1) (by
    obtain ⟨t, h1, h2⟩ := unlaid hl
    exact ⟨t, h1, h2⟩)
  have hfb : freeB G o u = true := by
    unfold freeB
    simp only [Bool.and_eq_true, Bool.not_eq_true', List.all_eq_true, Bool.or_eq_true, bne_iff_ne, List.contains_iff_mem]
    refine ⟨by simpa using hu.2, fun e he => ?_⟩
    by_cases hx : e.2 = u
    · right
      apply Classical.byContradiction
      intro hno
      exact hfree e.1 (by rw [← hx]; exact he) ⟨(hG e he).2, hno⟩
    · exact .inl hx
  cases hf : nextF G n o with
  | none =>
    unfold nextF at hf
    rw [List.find?_eq_none] at hf
    exact absurd hfb (hf u (List.mem_range.2 hu.1))
  | some t =>
    unfold nextF at hf
    exact ⟨t, rfl, List.mem_range.1 (List.mem_of_find?_eq_some hf), List.find?_some hf⟩
theorem order_laid {G : Gr} {n : Nat} (hG : ∀ e ∈ G, e.2 < n ∧ e.1 < n) (hN : NoCyc G n) : ∀ k, k ≤ n → Laid G n (orderM G n k) ∧ (orderM G n k).length = k
  | 0, _ => ⟨laid_nil G n, rfl⟩
  | k + 1, hk => by
    obtain ⟨h1, h2⟩ := order_laid hG hN k (by omega)
    obtain ⟨t, ht, hlt, hf⟩ := nextF_some hG hN (o := orderM G n k) (by omega)
    unfold orderM
    rw [ht]
    exact ⟨laid_snoc h1 hlt hf, by simp [h2]⟩
/-- All laid: each place stands somewhere, once. -/
theorem all_laid {G : Gr} {n : Nat} {o : List Nat} (h : Laid G n o) (hl : o.length = n) {t : Nat} (ht : t < n) : t ∈ o := by
  apply Classical.byContradiction
  intro hno
  have h1 : (t :: o).Nodup := List.nodup_cons.2 ⟨hno, h.nodup⟩
  obtain ⟨i, j, hij, hj, he⟩ := pigeon n (fun i => ((t :: o)[i]?).getD 0) (fun i hi => by
    have hi' : i < (t :: o).length := by simp; omega
    rw [List.getElem?_eq_getElem hi', Option.getD_some]
    rcases List.mem_cons.1 (List.getElem_mem hi') with e | e
    · rw [e]; exact ht
    · exact h.low _ e)
  have hi' : i < (t :: o).length := by simp; omega
  have hj' : j < (t :: o).length := by simp; omega
  rw [List.getElem?_eq_getElem hi', List.getElem?_eq_getElem hj', Option.getD_some, Option.getD_some] at he
  have := (List.getElem_inj h1).1 he
  omega
/-- An edge leads forward. -/
theorem forward {G : Gr} {n : Nat} {o : List Nat} (h : Laid G n o) {a b i j : Nat} (e : (a, b) ∈ G) (hi : o[i]? = some a) (hj : o[j]? = some b) : i < j := by
  obtain ⟨hjl, hjb⟩ := List.getElem?_eq_some_iff.1 hj
  have hs : o = o.take j ++ b :: o.drop (j + 1) := by
    rw [← hjb, ← List.drop_eq_getElem_cons hjl, List.take_append_drop]
  have ha := h.behind _ _ _ hs a e
  obtain ⟨k, hk, hka⟩ := List.getElem_of_mem ha
  have hkj : k < j := by simp at hk; omega
  rw [List.getElem_take] at hka
  obtain ⟨hil, hia⟩ := List.getElem?_eq_some_iff.1 hi
  have := (List.getElem_inj (h₀ := by omega) (h₁ := hil) h.nodup).1 (hka.trans hia.symm)
  omega
end Go.Proofs.YtkebljkdkaagfaaGreatDoor.S
namespace Go.Proofs.YtkebljkdkaagfaaGreatDoor.S
open Go
set_option maxRecDepth 100000
/-- An edge, a task, a plan. -/
structure EM where
  frm : Int
  out : Int
  to : Int
  inn : Int
structure TM where
  name : List UInt8
  kind : Int
  num : Int
  exprs : List (List UInt8)
structure PM where
  cap : Int
  tasks : List TM
  edges : List EM
def kindAt (p : PM) (i : Nat) : Int := ((p.tasks[i]?).map (·.kind)).getD 0
def loopsM (p : PM) (e : EM) : Bool := decide (kindAt p e.to.toNat = 11 ∧ e.inn = 1)
/-- What a kind asks: least and most in ports, least and most out ports. -/
def portsOf (k : Int) : Int × Int × Int × Int :=
  if k = 1 then (0, 0, 1, 1) else if k = 2 then (1, 1, 1, 1) else if k = 3 then (1, 1, 1, 1) else if k = 4 then (1, 1, 1, 1) else if k = 5 then (1, 4, 1, 1)
  else if k = 6 then (1, 1, 1, 4) else if k = 7 then (1, 1, 1, 4) else if k = 8 then (2, 2, 1, 1) else if k = 9 then (1, 1, 1, 1) else if k = 10 then (1, 1, 1, 1)
  else if k = 11 then (2, 2, 1, 1) else if k = 12 then (1, 1, 2, 2) else (1, 1, 0, 0)
def insP (p : PM) (t : Nat) : List Int := (p.edges.filter (fun e => decide (e.to = ((t : Nat) : Int)))).map (·.inn)
def outsP (p : PM) (t : Nat) : List Int := (p.edges.filter (fun e => decide (e.frm = ((t : Nat) : Int)))).map (·.out)
/-- The ports are 0 to their number less one, each once. -/
structure Linked (ports : List Int) (low high : Int) : Prop where
  low : low ≤ ports.length
  high : ports.length ≤ high
  lt : ∀ x ∈ ports, x < ports.length
  nodup : ports.Nodup
theorem Linked.all {ports : List Int} {low high : Int} (h : Linked ports low high) (h0 : ∀ x ∈ ports, 0 ≤ x) {j : Nat} (hj : j < ports.length) : (j : Int) ∈ ports := by
  apply Classical.byContradiction
  intro hno
  have h1 : ((j : Int) :: ports).Nodup := List.nodup_cons.2 ⟨hno, h.nodup⟩
  obtain ⟨a, b, hab, hb, he⟩ := pigeon ports.length (fun i => (((j : Int) :: ports)[i]?).getD 0 |>.toNat) (fun i hi => by
    have hi' : i < ((j : Int) :: ports).length := by simp; omega
    rw [List.getElem?_eq_getElem hi', Option.getD_some]
    rcases List.mem_cons.1 (List.getElem_mem hi') with e | e
    · rw [e]; omega
    · have := h.lt _ e; have := h0 _ e; omega)
  have ha' : a < ((j : Int) :: ports).length := by simp; omega
  have hb' : b < ((j : Int) :: ports).length := by simp; omega
  rw [List.getElem?_eq_getElem ha', List.getElem?_eq_getElem hb', Option.getD_some, Option.getD_some] at he
  have hnn : ∀ i (hi : i < ((j : Int) :: ports).length), 0 ≤ ((j : Int) :: ports)[i] := fun i hi => by
    rcases List.mem_cons.1 (List.getElem_mem hi) with e | e
    · rw [e]; omega
    · exact h0 _ e
  have e1 : ((j : Int) :: ports)[a] = ((j : Int) :: ports)[b] := by
    have := hnn a ha'
    have := hnn b hb'
    omega
  have := (List.getElem_inj h1).1 e1
  omega
/-- The edges that a spread goes over; back: back edges, too. -/
def grOf (p : PM) (back : Bool) : Gr := (p.edges.filter (fun e => back || !loopsM p e)).map (fun e => (e.frm.toNat, e.to.toNat))
/-- What the checks have told. -/
structure Good (p : PM) : Prop where
  kinds : ∀ t ∈ p.tasks, 1 ≤ t.kind ∧ t.kind ≤ 13
  edges : ∀ e ∈ p.edges, (0 ≤ e.frm ∧ e.frm < p.tasks.length) ∧ (0 ≤ e.to ∧ e.to < p.tasks.length) ∧ (0 ≤ e.out ∧ e.out < 4) ∧ 0 ≤ e.inn ∧ e.inn < 4
  ports : ∀ t, t < p.tasks.length → Linked (insP p t) (portsOf (kindAt p t)).1 (portsOf (kindAt p t)).2.1 ∧ Linked (outsP p t) (portsOf (kindAt p t)).2.2.1 (portsOf (kindAt p t)).2.2.2
  pairs : ∀ e ∈ p.edges, loopsM p e = decide (kindAt p e.frm.toNat = 12 ∧ e.out = 0)
  cycle : NoCyc (grOf p false) p.tasks.length
theorem Good.gr {p : PM} (h : Good p) (back : Bool) : ∀ e ∈ grOf p back, e.2 < p.tasks.length ∧ e.1 < p.tasks.length := fun e he => by
  obtain ⟨x, hx, rfl⟩ := List.mem_map.1 he
  obtain ⟨h1, h2, _⟩ := h.edges x (List.mem_filter.1 hx).1
  constructor <;> dsimp only <;> omega
theorem Good.kind {p : PM} (h : Good p) {t : Nat} (ht : t < p.tasks.length) : 1 ≤ kindAt p t ∧ kindAt p t ≤ 13 := by
  unfold kindAt
  rw [List.getElem?_eq_getElem ht]
  exact h.kinds _ (List.getElem_mem ht)
theorem inLow_pos {k : Int} (h0 : 1 ≤ k) (h1 : k ≤ 13) (h : k ≠ 1) : 1 ≤ (portsOf k).1 := by
  have : k = 2 ∨ k = 3 ∨ k = 4 ∨ k = 5 ∨ k = 6 ∨ k = 7 ∨ k = 8 ∨ k = 9 ∨ k = 10 ∨ k = 11 ∨ k = 12 ∨ k = 13 := by omega
  rcases this with rfl | rfl | rfl | rfl | rfl | rfl | rfl | rfl | rfl | rfl | rfl | rfl <;> decide
theorem outLow_pos {k : Int} (h0 : 1 ≤ k) (h1 : k ≤ 13) (h : k ≠ 13) : 1 ≤ (portsOf k).2.2.1 := by
  have : k = 1 ∨ k = 2 ∨ k = 3 ∨ k = 4 ∨ k = 5 ∨ k = 6 ∨ k = 7 ∨ k = 8 ∨ k = 9 ∨ k = 10 ∨ k = 11 ∨ k = 12 := by omega
  rcases this with rfl | rfl | rfl | rfl | rfl | rfl | rfl | rfl | rfl | rfl | rfl | rfl <;> decide
theorem source_there {p : PM} (h : Good p) (hn : 1 ≤ p.tasks.length) : ∃ t, t < p.tasks.length ∧ kindAt p t = 1 := by
  obtain ⟨u, hu, hf⟩ := free_there (fun e he => (h.gr false e he).1) h.cycle (fun t => t < p.tasks.length) (fun _ h => h) ⟨0, by omega⟩
  refine ⟨u, hu, Classical.byContradiction fun hk => ?_⟩
  obtain ⟨hi, -⟩ := h.ports u hu
  obtain ⟨k1, k2⟩ := h.kind hu
  have h1 := inLow_pos k1 k2 hk
  have h2 := hi.low
  have h3 := hi.all (fun x hx => by
    obtain ⟨e, he, rfl⟩ := List.mem_map.1 hx
    exact (h.edges e (List.mem_filter.1 he).1).2.2.2.1) (j := 0) (by omega)
  obtain ⟨e, he, h4⟩ := List.mem_map.1 h3
  obtain ⟨he, h5⟩ := List.mem_filter.1 he
  have h5 := of_decide_eq_true h5
  obtain ⟨h6, h7, -⟩ := h.edges e he
  have hl : loopsM p e = false := decide_eq_false fun hh => by have := hh.2; omega
  refine hf e.frm.toNat (List.mem_map.2 ⟨e, List.mem_filter.2 ⟨he, by rw [hl]; rfl⟩, ?_⟩) (by omega)
  rw [h5]
  rfl
theorem sink_there {p : PM} (h : Good p) (hn : 1 ≤ p.tasks.length) : ∃ t, t < p.tasks.length ∧ kindAt p t = 13 := by
  obtain ⟨u, hu, hf⟩ := last_of (fun e he => (h.gr false e he).1) h.cycle (fun t => t < p.tasks.length) (fun _ h => h) ⟨0, by omega⟩
  refine ⟨u, hu, Classical.byContradiction fun hk => ?_⟩
  obtain ⟨-, ho⟩ := h.ports u hu
  obtain ⟨k1, k2⟩ := h.kind hu
  have h1 := outLow_pos k1 k2 hk
  have h2 := ho.low
  have h0 : ∀ x ∈ outsP p u, 0 ≤ x := fun x hx => by
    obtain ⟨e, he, rfl⟩ := List.mem_map.1 hx
    exact (h.edges e (List.mem_filter.1 he).1).2.2.1.1
  have key : ∀ j : Nat, j < (outsP p u).length → ¬ (kindAt p u = 12 ∧ j = 0) → False := fun j hj hno => by
    have h3 := ho.all h0 hj
    obtain ⟨e, he, h4⟩ := List.mem_map.1 h3
    obtain ⟨he, h5⟩ := List.mem_filter.1 he
    have h5 := of_decide_eq_true h5
    obtain ⟨h6, h7, -⟩ := h.edges e he
    have hfu : e.frm.toNat = u := by omega
    have hl : loopsM p e = false := by
      rw [h.pairs e he, hfu]
      exact decide_eq_false fun hh => hno ⟨hh.1, by omega⟩
    refine hf e.to.toNat (List.mem_map.2 ⟨e, List.mem_filter.2 ⟨he, by rw [hl]; rfl⟩, ?_⟩) (by omega)
    rw [hfu]
  by_cases h12 : kindAt p u = 12
  · refine key 1 ?_ (by omega)
    have : (2 : Int) ≤ (portsOf (kindAt p u)).2.2.1 := by rw [h12]; decide
    omega
  · exact key 0 (by omega) (fun hh => h12 hh.1)
end Go.Proofs.YtkebljkdkaagfaaGreatDoor.S
