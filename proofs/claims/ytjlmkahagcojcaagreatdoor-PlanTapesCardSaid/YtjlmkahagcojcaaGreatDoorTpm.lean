/- Tapes, in plain Lean: what is written is read back. -/
import Derived.Test.YtjlmkahagcojcaaGreatDoorPrs
import Derived.Test.YtjlmkahagcojcaaGreatDoorKrt
namespace Go.Proofs.YtjlmkahagcojcaaGreatDoor.V
open Go Tr
open Go.Lib (decodeL)
set_option maxRecDepth 100000
/-- A record. -/
structure RecM where
  key : ByteArray
  val : VT
  loops : List Int
def checkRec (r : RecM) : Int :=
  if r.key.size > 12 then 24 else if checkV r.val ≠ 0 then checkV r.val else if r.loops.length > 3 then 25 else if r.loops.all (fun n => decide (0 ≤ n ∧ n ≤ 9)) = true then 0 else 25
def keyV (s : ByteArray) : VT := .mk 2 0 s []
def recTxt (r : RecM) : List UInt8 := printTxt (keyV r.key) ++ [32] ++ printTxt r.val ++ [10]
def recsTxt : List RecM → Option (List UInt8)
  | [] => some []
  | r :: l => if checkRec r ≠ 0 then none else if 0 < r.loops.length then none else (recsTxt l).map (recTxt r ++ ·)
/-- A tape's text. -/
def printTp (l : List RecM) : Option (List UInt8) := if 64 < l.length then none else match recsTxt l with
  | none => none
  | some t => if 4000 < t.length then none else some t
/-- How many bytes there are behind a quote, up to the one that ends it, that one too. -/
def qend : Bool → List UInt8 → Nat
  | _, [] => 0
  | o, c :: t => if c = 34 ∧ o = false then 1 else qend (if c = 92 then !o else false) t + 1
def tapeLine (l : List UInt8) (st : List RecM) : Except (Nat × Int) (List RecM) :=
  if st.length = 64 then .error (l.length - (skipS l).length, 65)
  else if pk (skipS l) ≠ 34 then .error (l.length - (skipS l).length, 67)
  else match parseX ((skipS l).take (1 + qend false (skipS l).tail)) with
    | .error f => .error (l.length - (skipS l).length + (((skipS l).take (1 + qend false (skipS l).tail)).length - f.2), f.1)
    | .ok (k, _) => if k.text.size > 12 then .error (l.length - (skipS l).length, 24)
      else match parseX ((skipS l).drop (1 + qend false (skipS l).tail)) with
        | .error f => .error (l.length - (skipS l).length + (1 + qend false (skipS l).tail) + (((skipS l).drop (1 + qend false (skipS l).tail)).length - f.2), f.1)
        | .ok (v, _) => .ok (st ++ [⟨k.text, v, []⟩])
def linesT : Nat → List (List UInt8) → List RecM → Except (Nat × Nat × Int) (List RecM)
  | _, [], st => .ok st
  | no, l :: ls, st => if passed l then linesT (no + 1) ls st else match tapeLine l st with
    | .error (a, c) => .error (no, a, c)
    | .ok st' => linesT (no + 1) ls st'
/-- A tape's text read. -/
def parseTp (t : List UInt8) : Except (Nat × Nat × Int) (List RecM) := if 4000 < t.length then .error (0, 0, 60) else linesT 1 (splitM t) []
theorem qend_plain {o : Bool} {c : UInt8} {t : List UInt8} (h1 : c ≠ 34) (h2 : c ≠ 92) : qend o (c :: t) = qend false t + 1 := by
  rw [qend, if_neg (fun h => h1 h.1), if_neg h2]
theorem qend_odd {c : UInt8} {t : List UInt8} (h2 : c ≠ 92) : qend true (c :: t) = qend false t + 1 := by
  rw [qend, if_neg (fun h => by cases h.2), if_neg h2]
theorem hexP_byte {c : UInt8} {l : List UInt8} {x : Nat} (h : hexP (pk (c :: l)) = some x) : c ≠ 34 ∧ c ≠ 92 ∧ c ≠ 10 := by
  have hc : pk (c :: l) = c.toNat := rfl
  rw [hc] at h
  refine ⟨?_, ?_, ?_⟩ <;> rintro rfl <;> exact nomatch (show (none : Option Nat) = some x from h)
theorem high_scan : ∀ (p r : List UInt8), (∀ c ∈ p, 128 ≤ c.toNat) → (∀ c ∈ p, c ≠ 10) ∧ qend false (p ++ r) = p.length + qend false r
  | [], r, _ => ⟨fun _ h => (by cases h), by simp⟩
  | c :: p, r, h => by
    have hc := h c (.head _)
    obtain ⟨i1, i2⟩ := high_scan p r fun c hc => h c (.tail _ hc)
    have n : ∀ d : UInt8, d.toNat < 128 → c ≠ d := fun d hd e => by subst e; omega
    refine ⟨fun d hd => ?_, ?_⟩
    · rcases List.mem_cons.1 hd with rfl | hd
      · exact n 10 (by decide)
      · exact i1 d hd
    · rw [List.cons_append, qend_plain (n 34 (by decide)) (n 92 (by decide)), i2, List.length_cons]
      omega
theorem decode_high (l : List UInt8) (h : 2 ≤ (decodeL l).2) : ∀ c ∈ l.take (decodeL l).2, 128 ≤ c.toNat := by
  have get : ∀ (i : Nat) (c : UInt8), l[i]? = some c → c.toNat = (l.getD i 0).toNat := fun i c hi => by rw [List.getD_eq_getElem?_getD, hi]; rfl
  have key : ∀ (n : Nat), (∀ i, i < n → 128 ≤ (l.getD i 0).toNat) → ∀ c ∈ l.take n, 128 ≤ c.toNat := fun n hn c hc => by
    obtain ⟨i, hi⟩ := List.getElem?_of_mem hc
    rw [List.getElem?_take] at hi
    split at hi
    · rename_i hlt
      rw [get i c hi]
      exact hn i hlt
    · cases hi
  rw [Lib.decodeL_N l] at h ⊢
  rcases Lib.decodeN_shape l.length (l.getD 0 0).toNat (l.getD 1 0).toNat (l.getD 2 0).toNat (l.getD 3 0).toNat with ⟨c, e⟩ | ⟨c1, c2, c3, cv, e⟩ | ⟨c1, c2, c3, c4, cv, cs, e⟩ | ⟨c1, c2, c3, c4, c5, cv, cw, e⟩ | e
  · rw [e] at h; simp at h
  · rw [e]
    refine key 2 fun i hi => ?_
    rcases (by omega : i = 0 ∨ i = 1) with rfl | rfl <;> omega
  · rw [e]
    refine key 3 fun i hi => ?_
    rcases (by omega : i = 0 ∨ i = 1 ∨ i = 2) with rfl | rfl | rfl <;> omega
  · rw [e]
    refine key 4 fun i hi => ?_
    rcases (by omega : i = 0 ∨ i = 1 ∨ i = 2 ∨ i = 3) with rfl | rfl | rfl | rfl <;> omega
  · rw [e] at h; simp at h
theorem read_scan : ∀ (k : Nat) (acc l b r : List UInt8), readX k acc l = .ok (b, r) → ∃ p, l = p ++ r ∧ (∀ c ∈ p, c ≠ 10) ∧ ∀ r', qend false (p ++ r') = p.length
  | 0, _, _, _, _, h => by cases h
  | k + 1, acc, l, b, r, h => by
    have byte : ∀ {c : UInt8} {t : List UInt8} {n : Nat}, n < 256 → pk (c :: t) = n → c = UInt8.ofNat n := fun {c t n} hn e => (u8_is hn).2 e
    by_cases h1 : pk l = 34
    · rw [readX_end _ _ _ h1] at h
      cases h
      cases l with
      | nil => exact absurd h1 (by decide)
      | cons c t =>
        obtain rfl : c = 34 := byte (by decide) h1
        exact ⟨[34], rfl, by decide, fun r' => rfl⟩
    by_cases h2 : pk l = 92
    · rw [readX_back _ _ _ h2] at h
      cases l with
      | nil => exact absurd h2 (by decide)
      | cons c t =>
        obtain rfl : c = 92 := byte (by decide) h2
        rw [List.tail_cons] at h
        cases he : escX t with
        | error e => rw [he] at h; cases h
        | ok y =>
          obtain ⟨b1, r1⟩ := y
          rw [he] at h
          obtain ⟨p, hp, h10, hq⟩ := read_scan k _ _ _ _ h
          have one : ∀ (d : UInt8) (t' : List UInt8), t = d :: t' → d ≠ 10 → (d = 92 ∨ d ≠ 92) → r1 = t' → ∃ p, (92 :: t) = p ++ r ∧ (∀ c ∈ p, c ≠ 10) ∧ ∀ r', qend false (p ++ r') = p.length := by
            rintro d t' rfl hd _ rfl
            refine ⟨92 :: d :: p, by rw [hp]; rfl, ?_, fun r' => ?_⟩
            · intro c hc
              rcases List.mem_cons.1 hc with rfl | hc
              · decide
              rcases List.mem_cons.1 hc with rfl | hc
              · exact hd
              · exact h10 c hc
            · rw [List.cons_append, List.cons_append, qend, if_neg (by decide), if_pos rfl]
              show qend true (d :: (p ++ r')) + 1 = _
              by_cases h92 : d = 92
              · subst h92
                rw [qend, if_neg (by decide), if_pos rfl]
                show qend false (p ++ r') + 1 + 1 = _
                rw [hq]; rfl
              · rw [qend_odd h92, hq]; rfl
          unfold escX at he
          cases t with
          | nil => cases he
          | cons d t =>
            split at he
            · rename_i hd
              cases he
              obtain rfl : d = 34 := byte (by decide) hd
              exact one _ _ rfl (by decide) (.inr (by decide)) rfl
            split at he
            · rename_i hd
              cases he
              obtain rfl : d = 92 := byte (by decide) hd
              exact one _ _ rfl (by decide) (.inl rfl) rfl
            split at he
            · rename_i hd
              cases he
              obtain rfl : d = 110 := byte (by decide) hd
              exact one _ _ rfl (by decide) (.inr (by decide)) rfl
            split at he
            · rename_i hd
              cases he
              obtain rfl : d = 116 := byte (by decide) hd
              exact one _ _ rfl (by decide) (.inr (by decide)) rfl
            split at he
            · rename_i hd
              obtain rfl : d = 120 := byte (by decide) hd
              rw [List.tail_cons] at he
              cases hx : hexP (pk t) with
              | none => rw [hx] at he; cases he
              | some x =>
                rw [hx] at he
                dsimp only at he
                cases hy : hexP (pk t.tail) with
                | none => rw [hy] at he; cases he
                | some y =>
                  rw [hy] at he
                  cases t with
                  | nil => cases hx
                  | cons u t =>
                    cases t with
                    | nil => cases hy
                    | cons v t =>
                      cases he
                      obtain ⟨u1, u2, u3⟩ := hexP_byte hx
                      obtain ⟨v1, v2, v3⟩ := hexP_byte (c := v) (l := t) hy
                      refine ⟨92 :: 120 :: u :: v :: p, by simp only [List.cons_append]; rw [← hp]; rfl, ?_, fun r' => ?_⟩
                      · intro c hc
                        simp only [List.mem_cons] at hc
                        rcases hc with rfl | rfl | rfl | rfl | hc
                        · decide
                        · decide
                        · exact u3
                        · exact v3
                        · exact h10 c hc
                      · simp only [List.cons_append]
                        rw [qend, if_neg (by decide), if_pos rfl]
                        show qend true _ + 1 = _
                        rw [qend_odd (by decide), qend_plain u1 u2, qend_plain v1 v2, hq]
                        rfl
            · cases he
    by_cases h3 : 32 ≤ pk l ∧ pk l ≤ 126
    · rw [readX_plain _ _ _ h1 h2 h3] at h
      cases l with
      | nil => exact absurd h3.1 (by decide)
      | cons c t =>
        obtain ⟨p, hp, h10, hq⟩ := read_scan k _ _ _ _ h
        have hc : pk (c :: t) = c.toNat := rfl
        refine ⟨c :: p, by rw [List.cons_append, ← hp]; rfl, ?_, fun r' => ?_⟩
        · intro d hd
          rcases List.mem_cons.1 hd with rfl | hd
          · rintro rfl
            have h32 : 32 ≤ (10 : UInt8).toNat := h3.1
            revert h32; decide
          · exact h10 d hd
        · rw [List.cons_append, qend_plain (by rintro rfl; exact h1 rfl) (by rintro rfl; exact h2 rfl), hq]
          rfl
    · rw [readX_rune _ _ _ h1 h2 h3] at h
      split at h
      · cases h
      · rename_i hc
        obtain ⟨p, hp, h10, hq⟩ := read_scan k _ _ _ _ h
        have hh := decode_high l (by omega)
        obtain ⟨s1, s2⟩ := high_scan (l.take (decodeL l).2) [] hh
        refine ⟨l.take (decodeL l).2 ++ p, ?_, ?_, fun r' => ?_⟩
        · rw [List.append_assoc, ← hp, List.take_append_drop]
        · intro d hd
          rcases List.mem_append.1 hd with hd | hd
          · exact s1 d hd
          · exact h10 d hd
        · rw [List.append_assoc, (high_scan _ _ hh).2, hq, List.length_append]
theorem keyV_fit {s : ByteArray} (h : s.size ≤ 24) : Fit (keyV s) := by
  rw [Fit_def]
  exact ⟨by show Rng 2; unfold Rng; decide, by show Rng 0; unfold Rng; decide, by show s.size ≤ _; omega, trivial⟩
theorem check_rec {r : RecM} (h : checkRec r = 0) : r.key.size ≤ 12 ∧ checkV r.val = 0 := by
  unfold checkRec at h
  split at h
  · cases h
  split at h
  · rename_i h1 h2; exact absurd h h2
  · exact ⟨by omega, by omega⟩
end Go.Proofs.YtjlmkahagcojcaaGreatDoor.V
