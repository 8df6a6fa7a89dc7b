/- Plain law: what the reader reads is a value within the limits. Plain law: what is read with its faults told is what is read. -/
import Derived.Test.YtjlmkahagcojcaaGreatDoorRdx
import Derived.Test.YtjlmkahagcojcaaGreatDoorRdt
namespace Go.Proofs.YtjlmkahagcojcaaGreatDoor.V
open Go Tr
set_option maxRecDepth 100000
theorem part_flat (n depth : Int) (kd : Int) (i : Int) (s : ByteArray) (c1 : ¬ n + 1 > 12) (h0 : 0 ≤ kd) (h2 : kd ≤ 2) (hi : kd ≠ 1 → i = 0) (hs : kd ≠ 2 → s.toList = []) (h24 : s.size ≤ 24) : partV n depth (.mk kd i s []) = (0, n + 1) := by
  let x : VT := .mk kd i s []
  show partV n depth x = _
  have a1 : ¬ (x.kind < 0 ∨ x.kind > 3) := by show ¬ (kd < 0 ∨ kd > 3); omega
  have a2 : ¬ ((x.int ≠ 0 ∧ x.kind ≠ 1) ∨ (x.text.toList ≠ [] ∧ x.kind ≠ 2) ∨ (0 < x.items.length ∧ x.kind ≠ 3)) := by
    rintro (⟨h, h'⟩ | ⟨h, h'⟩ | ⟨h, _⟩)
    · exact h (hi h')
    · exact h (hs h')
    · exact absurd (show 0 < ([] : List VT).length from h) (by simp)
  have a3 : ¬ (x.kind = 3 ∧ depth ≥ 3) := by show ¬ (kd = 3 ∧ depth ≥ 3); omega
  have a4 : ¬ x.text.size > 24 := by show ¬ s.size > 24; omega
  have a5 : ¬ x.items.length > 6 := by show ¬ ([] : List VT).length > 6; simp
  rw [partV_def, if_neg c1, if_neg a1, if_neg a2, if_neg a3, if_neg a4, if_neg a5]
  rfl
theorem numM_rng {neg : Bool} {ds : List UInt8} {v : Int} (h : numM neg ds = some v) : Rng v := by
  unfold numM at h
  unfold Rng
  split at h
  · split at h
    · cases h; omega
    · cases h
  · split at h
    · cases h; omega
    · cases h
theorem rdigM_rng {neg : Bool} {l : List UInt8} {v : Int} {r : List UInt8} (h : rdigM neg l = some (v, r)) : Rng v := by
  unfold rdigM at h
  split at h
  · split at h
    · cases h
    · cases h; unfold Rng; decide
  · split at h
    · cases h
    · cases hn : numM neg (l.takeWhile isDig) with
      | none => rw [hn] at h; cases h
      | some v' => rw [hn] at h; cases h; exact numM_rng hn
theorem rintM_rng {l : List UInt8} {v : Int} {r : List UInt8} (h : rintM l = some (v, r)) : Rng v := by
  unfold rintM at h
  split at h
  · exact rdigM_rng h
  · exact rdigM_rng h
theorem rtextM_size {l : List UInt8} {s : ByteArray} {r : List UInt8} (h : rtextM l = some (s, r)) : s.size ≤ 24 := by
  unfold rtextM at h
  cases hq : readQ (l.length + 1) [] l with
  | none => rw [hq] at h; cases h
  | some y =>
    obtain ⟨b, r'⟩ := y
    rw [hq] at h
    dsimp only at h
    split at h
    · cases h
    · cases h
      show b.toArray.size ≤ 24
      simp; omega
theorem rd_is (k : Nat) : ∀ (l : List UInt8) (n depth : Int) (x : VT) (l' : List UInt8) (n' : Int), rdV k depth l n = some (x, l', n') → partV n depth x = (0, n') ∧ Fit x := by
  induction k with
  | zero => intro l n depth x l' n' h; cases h
  | succ k ih =>
    intro l n depth x l' n' h
    have rng0 : Rng 0 := by unfold Rng; decide
    have bs0 : (bytesL []).size ≤ 9223372036854775807 := by decide
    rw [rdV_succ] at h
    by_cases c0 : begs (pk l) = false
    · rw [if_pos c0] at h; cases h
    rw [if_neg c0] at h
    by_cases c1 : n + 1 > 12
    · rw [if_pos c1] at h; cases h
    rw [if_neg c1] at h
    by_cases k1 : pk l = 110
    · rw [if_pos k1] at h
      split at h
      · cases h
        exact ⟨part_flat n depth 0 0 (bytesL []) c1 (by decide) (by decide) (fun _ => rfl) (fun _ => bytesL_nil) (by decide), noneV_fit⟩
      · cases h
    rw [if_neg k1] at h
    by_cases k2 : pk l = 34
    · rw [if_pos k2] at h
      cases ht : rtextM l.tail with
      | none => rw [ht] at h; cases h
      | some y =>
        obtain ⟨s, r⟩ := y
        rw [ht] at h
        cases h
        have := rtextM_size ht
        refine ⟨part_flat n depth 2 0 s c1 (by decide) (by decide) (fun _ => rfl) (fun h => absurd rfl h) this, ?_⟩
        rw [Fit_def]
        exact ⟨by show Rng 2; unfold Rng; decide, rng0, by show s.size ≤ _; omega, trivial⟩
    rw [if_neg k2] at h
    by_cases k3 : pk l = 91
    · rw [if_pos k3] at h
      unfold rlistM at h
      by_cases hd : depth ≥ 3
      · rw [if_pos hd] at h; cases h
      rw [if_neg hd] at h
      have fin : ∀ (xs : List VT), xs.length ≤ 6 → partL (n + 1) depth xs = (0, n') → FitL xs → partV n depth (.mk 3 0 (bytesL []) xs) = (0, n') ∧ Fit (.mk 3 0 (bytesL []) xs) := by
        intro xs h6 hp hf
        refine ⟨?_, ?_⟩
        · rw [partV_def]
          simp only [VT.kind, VT.int, VT.text, VT.items, bytesL_nil]
          rw [if_neg c1]
          have b24 : ¬ (bytesL []).size > 24 := by decide
          have x6 : ¬ xs.length > 6 := by omega
          simp only [hd, b24, x6, if_false, and_false, ne_eq, not_true_eq_false, or_self, hp]
          simp
        · rw [Fit_def]
          exact ⟨by show Rng 3; unfold Rng; decide, rng0, bs0, hf⟩
      by_cases he : pk (blanksM l.tail) = 93
      · rw [if_pos he] at h
        cases h
        exact fin [] (by simp) rfl trivial
      rw [if_neg he] at h
      have key : ∀ (m : Nat) (acc : List VT) (l : List UInt8) (n : Int) (xs : List VT) (l' : List UInt8) (n' : Int), ritems (rdV k (depth + 1)) m acc l n = some (xs, l', n') → ∃ ys, xs = acc ++ ys ∧ ys.length ≤ m ∧ partL n depth ys = (0, n') ∧ FitL ys := by
        intro m
        induction m with
        | zero => intro acc l n xs l' n' h; cases h
        | succ m ihm =>
          intro acc l n xs l' n' h
          unfold ritems at h
          cases hx : rdV k (depth + 1) l n with
          | none => rw [hx] at h; cases h
          | some y =>
            obtain ⟨z, l1, n1⟩ := y
            rw [hx] at h
            dsimp only at h
            obtain ⟨z1, z2⟩ := ih _ _ _ _ _ _ hx
            split at h
            · cases h
              exact ⟨[z], rfl, by simp, by simp [partL, z1], ⟨z2, trivial⟩⟩
            · split at h
              · obtain ⟨ys, y1, y2, y3, y4⟩ := ihm _ _ _ _ _ _ h
                refine ⟨z :: ys, by rw [y1, List.append_assoc]; rfl, by simp; omega, ?_, ⟨z2, y4⟩⟩
                simp only [partL, z1]
                rw [if_neg (by simp)]; exact y3
              · cases h
      cases hi : ritems (rdV k (depth + 1)) 6 [] (blanksM l.tail) (n + 1) with
      | none => rw [hi] at h; cases h
      | some y =>
        obtain ⟨xs, l2, n2⟩ := y
        rw [hi] at h
        cases h
        obtain ⟨ys, y1, y2, y3, y4⟩ := key _ _ _ _ _ _ _ hi
        rw [List.nil_append] at y1
        subst y1
        exact fin xs y2 y3 y4
    rw [if_neg k3] at h
    cases hi : rintM l with
    | none => rw [hi] at h; cases h
    | some y =>
      obtain ⟨v, r⟩ := y
      rw [hi] at h
      cases h
      refine ⟨part_flat n depth 1 v (bytesL []) c1 (by decide) (by decide) (fun h => absurd rfl h) (fun _ => bytesL_nil) (by decide), ?_⟩
      rw [Fit_def]
      exact ⟨by show Rng 1; unfold Rng; decide, rintM_rng hi, bs0, trivial⟩
end Go.Proofs.YtjlmkahagcojcaaGreatDoor.V
namespace Go.Proofs.YtjlmkahagcojcaaGreatDoor.V
open Go Tr
open Go.Lib (decodeL)
set_option maxRecDepth 100000
theorem escX_is (l : List UInt8) : escM l = (escX l).toOption := by
  unfold escM escX
  by_cases h1 : pk l = 34
  · rw [if_pos h1, if_pos h1]; rfl
  rw [if_neg h1, if_neg h1]
  by_cases h2 : pk l = 92
  · rw [if_pos h2, if_pos h2]; rfl
  rw [if_neg h2, if_neg h2]
  by_cases h3 : pk l = 110
  · rw [if_pos h3, if_pos h3]; rfl
  rw [if_neg h3, if_neg h3]
  by_cases h4 : pk l = 116
  · rw [if_pos h4, if_pos h4]; rfl
  rw [if_neg h4, if_neg h4]
  by_cases h5 : pk l = 120
  · rw [if_pos h5, if_pos h5]
    cases hexP (pk l.tail) <;> cases hexP (pk l.tail.tail) <;> rfl
  · rw [if_neg h5, if_neg h5]; rfl
theorem readX_is : ∀ (k : Nat) (acc l : List UInt8), readQ k acc l = (readX k acc l).toOption
  | 0, _, _ => rfl
  | k + 1, acc, l => by
    by_cases h1 : pk l = 34
    · rw [readQ_end _ _ _ h1, readX_end _ _ _ h1]; rfl
    by_cases h2 : pk l = 92
    · rw [readQ_back _ _ _ h2, readX_back _ _ _ h2, escX_is]
      cases escX l.tail with
      | error e => rfl
      | ok y => exact readX_is k _ _
    by_cases h3 : 32 ≤ pk l ∧ pk l ≤ 126
    · rw [readQ_plain _ _ _ h1 h2 h3, readX_plain _ _ _ h1 h2 h3]
      exact readX_is k _ _
    · rw [readQ_rune _ _ _ h1 h2 h3, readX_rune _ _ _ h1 h2 h3]
      by_cases h4 : pk l < 128 ∨ (decodeL l).2 < 2
      · rw [if_pos h4, if_pos h4]; rfl
      · rw [if_neg h4, if_neg h4]
        exact readX_is k _ _
theorem rtextX_is (l : List UInt8) : rtextM l.tail = (rtextX l).toOption := by
  unfold rtextM rtextX
  rw [readX_is]
  cases readX (l.tail.length + 1) [] l.tail with
  | error e => rfl
  | ok y =>
    obtain ⟨b, r⟩ := y
    show (if b.length > 24 then none else _) = _
    dsimp only
    by_cases h : b.length > 24
    · rw [if_pos h, if_pos h]; rfl
    · rw [if_neg h, if_neg h]; rfl
theorem rdigX_is (f : Nat) (neg : Bool) (l : List UInt8) : rdigM neg l = (rdigX f neg l).toOption := by
  unfold rdigM rdigX
  by_cases h : pk l = 48
  · rw [if_pos h, if_pos h]
    cases neg <;> rfl
  rw [if_neg h, if_neg h]
  by_cases h2 : l.takeWhile isDig = []
  · rw [if_pos h2, if_pos h2]; rfl
  rw [if_neg h2, if_neg h2]
  cases numM neg (l.takeWhile isDig) <;> rfl
theorem rintX_is (l : List UInt8) : rintM l = (rintX l).toOption := by
  unfold rintM rintX
  by_cases h : pk l = 45
  · rw [if_pos h, if_pos h]; exact rdigX_is _ _ _
  · rw [if_neg h, if_neg h]; exact rdigX_is _ _ _
theorem wantX_is : ∀ (w l : List UInt8), (∀ c ∈ w, c ≠ 0) → (if l.take w.length = w then some (l.drop w.length) else none) = (wantX w l).toOption
  | [], l, _ => by simp [wantX, Except.toOption]
  | c :: w, l, h => by
    have hc := h c (.head _)
    have hc0 : c.toNat ≠ 0 := fun e => hc (UInt8.toNat_inj.1 (by rw [e]; rfl))
    unfold wantX
    cases l with
    | nil =>
      rw [if_neg (by simp), if_neg (by show ¬ (0 : Nat) = _; omega)]
      rfl
    | cons d l =>
      have ih := wantX_is w l (fun c hc => h c (.tail _ hc))
      by_cases e : d = c
      · subst e
        rw [if_pos (show pk (d :: l) = d.toNat from rfl), List.tail_cons, ← ih]
        simp
      · rw [if_neg (show ¬ pk (d :: l) = c.toNat from fun h => e (UInt8.toNat_inj.1 h)), if_neg (by simp [e])]
        rfl
theorem ritemsX_is (f : List UInt8 → Int → Option (VT × List UInt8 × Int)) (g : List UInt8 → Int → Except Flt (VT × List UInt8 × Int)) (h : ∀ l n, f l n = (g l n).toOption) :
    ∀ (m : Nat) (acc : List VT) (l : List UInt8) (n : Int), ritems f m acc l n = (ritemsX g m acc l n).toOption
  | 0, _, _, _ => rfl
  | m + 1, acc, l, n => by
    unfold ritems ritemsX
    rw [h]
    cases g l n with
    | error e => rfl
    | ok y =>
      obtain ⟨x, l1, n1⟩ := y
      show (if pk (blanksM l1) = 93 then _ else _) = _
      dsimp only
      by_cases h1 : pk (blanksM l1) = 93
      · rw [if_pos h1, if_pos h1]; rfl
      rw [if_neg h1, if_neg h1]
      by_cases h2 : pk (blanksM l1) = 44
      · rw [if_pos h2, if_pos h2]
        by_cases h3 : m = 0
        · rw [if_pos h3]; subst h3; rfl
        · rw [if_neg h3]; exact ritemsX_is f g h m _ _ _
      · rw [if_neg h2, if_neg h2]; rfl
theorem rlistX_is (f : List UInt8 → Int → Option (VT × List UInt8 × Int)) (g : List UInt8 → Int → Except Flt (VT × List UInt8 × Int)) (h : ∀ l n, f l n = (g l n).toOption) (depth : Int) (l : List UInt8) (n : Int) :
    rlistM f depth l n = (rlistX g depth l n).toOption := by
  unfold rlistM rlistX
  by_cases h1 : depth ≥ 3
  · rw [if_pos h1, if_pos h1]; rfl
  rw [if_neg h1, if_neg h1]
  by_cases h2 : pk (blanksM l.tail) = 93
  · rw [if_pos h2, if_pos h2]; rfl
  rw [if_neg h2, if_neg h2, ritemsX_is f g h]
  cases ritemsX g 6 [] (blanksM l.tail) n with
  | error e => rfl
  | ok y => rfl
theorem rdX_is : ∀ (k : Nat) (depth : Int) (l : List UInt8) (n : Int), rdV k depth l n = (rdX k depth l n).toOption
  | 0, _, _, _ => rfl
  | k + 1, depth, l, n => by
    rw [rdV_succ, rdX_succ]
    by_cases h1 : begs (pk l) = false
    · rw [if_pos h1, if_pos h1]; rfl
    rw [if_neg h1, if_neg h1]
    by_cases h2 : n + 1 > 12
    · rw [if_pos h2, if_pos h2]; rfl
    rw [if_neg h2, if_neg h2]
    by_cases h3 : pk l = 110
    · rw [if_pos h3, if_pos h3]
      have := wantX_is [110, 111, 110, 101] l (by decide)
      cases hw : wantX [110, 111, 110, 101] l with
      | error e =>
        rw [hw] at this
        have hn : ¬ l.take 4 = [110, 111, 110, 101] := fun e => by
          rw [if_pos (show l.take [(110 : UInt8), 111, 110, 101].length = _ from e)] at this
          cases this
        rw [if_neg hn]; rfl
      | ok r =>
        rw [hw] at this
        by_cases hn : l.take 4 = [110, 111, 110, 101]
        · rw [if_pos (show l.take [(110 : UInt8), 111, 110, 101].length = _ from hn)] at this
          rw [if_pos hn]
          have e : l.drop 4 = r := by simpa [Except.toOption] using this
          rw [e]; rfl
        · rw [if_neg (show ¬ l.take [(110 : UInt8), 111, 110, 101].length = _ from hn)] at this
          cases this
    rw [if_neg h3, if_neg h3]
    by_cases h4 : pk l = 34
    · rw [if_pos h4, if_pos h4, rtextX_is]
      cases rtextX l <;> rfl
    rw [if_neg h4, if_neg h4]
    by_cases h5 : pk l = 91
    · rw [if_pos h5, if_pos h5]
      exact rlistX_is _ _ (fun l n => rdX_is k (depth + 1) l n) depth l (n + 1)
    rw [if_neg h5, if_neg h5, rintX_is]
    cases rintX l <;> rfl
theorem rdX_ok {k : Nat} {depth : Int} {l : List UInt8} {n : Int} {y : VT × List UInt8 × Int} (h : rdX k depth l n = .ok y) : rdV k depth l n = some y := by rw [rdX_is, h]; rfl
end Go.Proofs.YtjlmkahagcojcaaGreatDoor.V
