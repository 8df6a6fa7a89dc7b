/- Plain law: what the reader reads is a value within the limits. -/
import Derived.Test.YtkebljkdkaagfaaGreatDoorRdx
namespace Go.Proofs.YtkebljkdkaagfaaGreatDoor.V
open Go Tr
set_option maxRecDepth 100000
theorem part_flat (n depth : Int) (kd : Int) (i : Int) (s : ByteArray) (c1 : ¬ n + 1 > 12) (h0 : 0 ≤ kd) (h2 : kd ≤ 2) (hi : kd ≠ 1 → i = 0) (hs : kd ≠ 2 → s.toList = []) (h24 : s.size ≤ 24) : partV n depth (.mk kd i s []) = (0, n + 1) := by
  let x : VT := .mk kd i s []
  show partV n depth x = _
  have a1 : ¬ (x.kind < 0 ∨ x.kind > 3) := by show ¬ (kd < 0 ∨ kd > 3); omega
  have a2 : ¬ ((x.int ≠ 0 ∧ x.kind ≠ 1) ∨ (x.text.toList ≠ [] ∧ x.kind ≠ 2) ∨ (0 < x.items.length ∧ x.kind ≠ 3)) := by
    rintro (⟨h, h'⟩ | ⟨h, h'⟩ | ⟨h, _⟩)
    · exact h (hi h')
    · exact h (hs h')
    · exact absurd (show 0 < ([] : List VT).length from h) (by simp)
  have a3 : ¬ (x.kind = 3 ∧ depth ≥ 3) := by show ¬ (kd = 3 ∧ depth ≥ 3); omega
  have a4 : ¬ x.text.size > 24 := by show ¬ s.size > 24; omega
  have a5 : ¬ x.items.length > 6 := by show ¬ ([] : List VT).length > 6; simp
  rw [partV_def, if_neg c1, if_neg a1, if_neg a2, if_neg a3, if_neg a4, if_neg a5]
  rfl
theorem numM_rng {neg : Bool} {ds : List UInt8} {v : Int} (h : numM neg ds = some v) : Rng v := by
  unfold numM at h
  unfold Rng
  split at h
  · split at h
    · cases h; omega
    · cases h
  · split at h
    · cases h; omega
    · cases h
theorem rdigM_rng {neg : Bool} {l : List UInt8} {v : Int} {r : List UInt8} (h : rdigM neg l = some (v, r)) : Rng v := by
  unfold rdigM at h
  split at h
  · split at h
    · cases h
    · cases h; unfold Rng; decide
  · split at h
    · cases h
    · cases hn : numM neg (l.takeWhile isDig) with
      | none => rw [hn] at h; cases h
      | some v' => rw [hn] at h; cases h; exact numM_rng hn
theorem rintM_rng {l : List UInt8} {v : Int} {r : List UInt8} (h : rintM l = some (v, r)) : Rng v := by
  unfold rintM at h
  split at h
  · exact rdigM_rng h
  · exact rdigM_rng h
theorem rtextM_size {l : List UInt8} {s : ByteArray} {r : List UInt8} (h : rtextM l = some (s, r)) : s.size ≤ 24 := by
  unfold rtextM at h
  cases hq : readQ (l.length + 1) [] l with
  | none => rw [hq] at h; cases h
  | some y =>
    obtain ⟨b, r'⟩ := y
    rw [hq] at h
    dsimp only at h
    split at h
    · cases h
    · cases h
      show b.toArray.size ≤ 24
      simp; omega
theorem rd_is (k : Nat) : ∀ (l : List UInt8) (n depth : Int) (x : VT) (l' : List UInt8) (n' : Int), rdV k depth l n = some (x, l', n') → partV n depth x = (0, n') ∧ Fit x := by
  induction k with
  | zero => intro l n depth x l' n' h; cases h
  | succ k ih =>
    intro l n depth x l' n' h
    have rng0 : Rng 0 := by unfold Rng; decide
    have bs0 : (bytesL []).size ≤ 9223372036854775807 := by decide
    rw [rdV_succ] at h
    by_cases c0 : begs (pk l) = false
    · rw [if_pos c0] at h; cases h
    rw [if_neg c0] at h
    by_cases c1 : n + 1 > 12
    · rw [if_pos c1] at h; cases h
    rw [if_neg c1] at h
    by_cases k1 : pk l = 110
    · rw [if_pos k1] at h
      split at h
      · cases h
        exact ⟨part_flat n depth 0 0 (bytesL []) c1 (by decide) (by decide) (fun _ => rfl) (fun _ => bytesL_nil) (by decide), noneV_fit⟩
      · cases h
    rw [if_neg k1] at h
    by_cases k2 : pk l = 34
    · rw [if_pos k2] at h
      cases ht : rtextM l.tail with
      | none => rw [ht] at h; cases h
      | some y =>
        obtain ⟨s, r⟩ := y
        rw [ht] at h
        cases h
        have := rtextM_size ht
        refine ⟨part_flat n depth 2 0 s c1 (by decide) (by decide) (fun _ => rfl) (fun h => absurd rfl h) this, ?_⟩
        rw [Fit_def]
        exact ⟨by show Rng 2; unfold Rng; decide, rng0, by show s.size ≤ _; omega, trivial⟩
    rw [if_neg k2] at h
    by_cases k3 : pk l = 91
    · rw [if_pos k3] at h
      unfold rlistM at h
      by_cases hd : depth ≥ 3
      · rw [if_pos hd] at h; cases h
      rw [if_neg hd] at h
      have fin : ∀ (xs : List VT), xs.length ≤ 6 → partL (n + 1) depth xs = (0, n') → FitL xs → partV n depth (.mk 3 0 (bytesL []) xs) = (0, n') ∧ Fit (.mk 3 0 (bytesL []) xs) := by
        intro xs h6 hp hf
        refine ⟨?_, ?_⟩
        · rw [partV_def]
          simp only [VT.kind, VT.int, VT.text, VT.items, bytesL_nil]
          rw [if_neg c1]
          have b24 : ¬ (bytesL []).size > 24 := by decide
          have x6 : ¬ xs.length > 6 := by omega
          simp only [hd, b24, x6, if_false, and_false, ne_eq, not_true_eq_false, or_self, hp]
          simp
        · rw [Fit_def]
          exact ⟨by show Rng 3; unfold Rng; decide, rng0, bs0, hf⟩
      by_cases he : pk (blanksM l.tail) = 93
      · rw [if_pos he] at h
        cases h
        exact fin [] (by simp) rfl trivial
      rw [if_neg he] at h
      have key : ∀ (m : Nat) (acc : List VT) (l : List UInt8) (n : Int) (xs : List VT) (l' : List UInt8) (n' : Int), ritems (rdV k (depth + 1)) m acc l n = some (xs, l', n') → ∃ ys, xs = acc ++ ys ∧ ys.length ≤ m ∧ partL n depth ys = (0, n') ∧ FitL ys := by
        intro m
        induction m with
        | zero => intro acc l n xs l' n' h; cases h
        | succ m ihm =>
          intro acc l n xs l' n' h
          unfold ritems at h
          cases hx : rdV k (depth + 1) l n with
          | none => rw [hx] at h; cases h
          | some y =>
            obtain ⟨z, l1, n1⟩ := y
            rw [hx] at h
            dsimp only at h
            obtain ⟨z1, z2⟩ := ih _ _ _ _ _ _ hx
            split at h
            · cases h
              exact ⟨[z], rfl, by simp, by simp [partL, z1], ⟨z2, trivial⟩⟩
            · split at h
              · obtain ⟨ys, y1, y2, y3, y4⟩ := ihm _ _ _ _ _ _ h
                refine ⟨z :: ys, by rw [y1, List.append_assoc]; rfl, by simp; omega, ?_, ⟨z2, y4⟩⟩
                simp only [partL, z1]
                rw [if_neg (by simp)]; exact y3
              · cases h
      cases hi : ritems (rdV k (depth + 1)) 6 [] (blanksM l.tail) (n + 1) with
      | none => rw [hi] at h; cases h
      | some y =>
        obtain ⟨xs, l2, n2⟩ := y
        rw [hi] at h
        cases h
        obtain ⟨ys, y1, y2, y3, y4⟩ := key _ _ _ _ _ _ _ hi
        rw [List.nil_append] at y1
        subst y1
        exact fin xs y2 y3 y4
    rw [if_neg k3] at h
    cases hi : rintM l with
    | none => rw [hi] at h; cases h
    | some y =>
      obtain ⟨v, r⟩ := y
      rw [hi] at h
      cases h
      refine ⟨part_flat n depth 1 v (bytesL []) c1 (by decide) (by decide) (fun h => absurd rfl h) (fun _ => bytesL_nil) (by decide), ?_⟩
      rw [Fit_def]
      exact ⟨by show Rng 1; unfold Rng; decide, rintM_rng hi, bs0, trivial⟩
end Go.Proofs.YtkebljkdkaagfaaGreatDoor.V
