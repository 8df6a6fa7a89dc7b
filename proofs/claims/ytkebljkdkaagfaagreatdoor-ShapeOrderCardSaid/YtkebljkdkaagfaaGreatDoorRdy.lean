/- Plain law: what is read with its faults told is what is read. -/
import Derived.Test.YtkebljkdkaagfaaGreatDoorRdt
import Derived.Test.YtkebljkdkaagfaaGreatDoorRvl
namespace Go.Proofs.YtkebljkdkaagfaaGreatDoor.V
open Go Tr
open Go.Lib (decodeL)
set_option maxRecDepth 100000
theorem escX_is (l : List UInt8) : escM l = (escX l).toOption := by
  unfold escM escX
  by_cases h1 : pk l = 34
  · rw [if_pos h1, if_pos h1]; rfl
  rw [if_neg h1, if_neg h1]
  by_cases h2 : pk l = 92
  · rw [if_pos h2, if_pos h2]; rfl
  rw [if_neg h2, if_neg h2]
  by_cases h3 : pk l = 110
  · rw [if_pos h3, if_pos h3]; rfl
  rw [if_neg h3, if_neg h3]
  by_cases h4 : pk l = 116
  · rw [if_pos h4, if_pos h4]; rfl
  rw [if_neg h4, if_neg h4]
  by_cases h5 : pk l = 120
  · rw [if_pos h5, if_pos h5]
    cases hexP (pk l.tail) <;> cases hexP (pk l.tail.tail) <;> rfl
  · rw [if_neg h5, if_neg h5]; rfl
theorem readX_is : ∀ (k : Nat) (acc l : List UInt8), readQ k acc l = (readX k acc l).toOption
  | 0, _, _ => rfl
  | k + 1, acc, l => by
    by_cases h1 : pk l = 34
    · rw [readQ_end _ _ _ h1, readX_end _ _ _ h1]; rfl
    by_cases h2 : pk l = 92
    · rw [readQ_back _ _ _ h2, readX_back _ _ _ h2, escX_is]
      cases escX l.tail with
      | error e => rfl
      | ok y => exact readX_is k _ _
    by_cases h3 : 32 ≤ pk l ∧ pk l ≤ 126
    · rw [readQ_plain _ _ _ h1 h2 h3, readX_plain _ _ _ h1 h2 h3]
      exact readX_is k _ _
    · rw [readQ_rune _ _ _ h1 h2 h3, readX_rune _ _ _ h1 h2 h3]
      by_cases h4 : pk l < 128 ∨ (decodeL l).2 < 2
      · rw [if_pos h4, if_pos h4]; rfl
      · rw [if_neg h4, if_neg h4]
        exact readX_is k _ _
theorem rtextX_is (l : List UInt8) : rtextM l.tail = (rtextX l).toOption := by
  unfold rtextM rtextX
  rw [readX_is]
  cases readX (l.tail.length + 1) [] l.tail with
  | error e => rfl
  | ok y =>
    obtain ⟨b, r⟩ := y
    show (if b.length > 24 then none else _) = _
    dsimp only
    by_cases h : b.length > 24
    · rw [if_pos h, if_pos h]; rfl
    · rw [if_neg h, if_neg h]; rfl
theorem rdigX_is (f : Nat) (neg : Bool) (l : List UInt8) : rdigM neg l = (rdigX f neg l).toOption := by
  unfold rdigM rdigX
  by_cases h : pk l = 48
  · rw [if_pos h, if_pos h]
    cases neg <;> rfl
  rw [if_neg h, if_neg h]
  by_cases h2 : l.takeWhile isDig = []
  · rw [if_pos h2, if_pos h2]; rfl
  rw [if_neg h2, if_neg h2]
  cases numM neg (l.takeWhile isDig) <;> rfl
theorem rintX_is (l : List UInt8) : rintM l = (rintX l).toOption := by
  unfold rintM rintX
  by_cases h : pk l = 45
  · rw [if_pos h, if_pos h]; exact rdigX_is _ _ _
  · rw [if_neg h, if_neg h]; exact rdigX_is _ _ _
theorem wantX_is : ∀ (w l : List UInt8), (∀ c ∈ w, c ≠ 0) → (if l.take w.length = w then some (l.drop w.length) else none) = (wantX w l).toOption
  | [], l, _ => by simp [wantX, Except.toOption]
  | c :: w, l, h => by
    have hc := h c (.head _)
    have hc0 : c.toNat ≠ 0 := fun e => hc (UInt8.toNat_inj.1 (by rw [e]; rfl))
    unfold wantX
    cases l with
    | nil =>
      rw [if_neg (by simp), if_neg (by show ¬ (0 : Nat) = _; omega)]
      rfl
    | cons d l =>
      have ih := wantX_is w l (fun c hc => h c (.tail _ hc))
      by_cases e : d = c
      · subst e
        rw [if_pos (show pk (d :: l) = d.toNat from rfl), List.tail_cons, ← ih]
        simp
      · rw [if_neg (show ¬ pk (d :: l) = c.toNat from fun h => e (UInt8.toNat_inj.1 h)), if_neg (by simp [e])]
        rfl
theorem ritemsX_is (f : List UInt8 → Int → Option (VT × List UInt8 × Int)) (g : List UInt8 → Int → Except Flt (VT × List UInt8 × Int)) (h : ∀ l n, f l n = (g l n).toOption) :
    ∀ (m : Nat) (acc : List VT) (l : List UInt8) (n : Int), ritems f m acc l n = (ritemsX g m acc l n).toOption
  | 0, _, _, _ => rfl
  | m + 1, acc, l, n => by
    unfold ritems ritemsX
    rw [h]
    cases g l n with
    | error e => rfl
    | ok y =>
      obtain ⟨x, l1, n1⟩ := y
      show (if pk (blanksM l1) = 93 then _ else _) = _
      dsimp only
      by_cases h1 : pk (blanksM l1) = 93
      · rw [if_pos h1, if_pos h1]; rfl
      rw [if_neg h1, if_neg h1]
      by_cases h2 : pk (blanksM l1) = 44
      · rw [if_pos h2, if_pos h2]
        by_cases h3 : m = 0
        · rw [if_pos h3]; subst h3; rfl
        · rw [if_neg h3]; exact ritemsX_is f g h m _ _ _
      · rw [if_neg h2, if_neg h2]; rfl
theorem rlistX_is (f : List UInt8 → Int → Option (VT × List UInt8 × Int)) (g : List UInt8 → Int → Except Flt (VT × List UInt8 × Int)) (h : ∀ l n, f l n = (g l n).toOption) (depth : Int) (l : List UInt8) (n : Int) :
    rlistM f depth l n = (rlistX g depth l n).toOption := by
  unfold rlistM rlistX
  by_cases h1 : depth ≥ 3
  · rw [if_pos h1, if_pos h1]; rfl
  rw [if_neg h1, if_neg h1]
  by_cases h2 : pk (blanksM l.tail) = 93
  · rw [if_pos h2, if_pos h2]; rfl
  rw [if_neg h2, if_neg h2, ritemsX_is f g h]
  cases ritemsX g 6 [] (blanksM l.tail) n with
  | error e => rfl
  | ok y => rfl
theorem rdX_is : ∀ (k : Nat) (depth : Int) (l : List UInt8) (n : Int), rdV k depth l n = (rdX k depth l n).toOption
  | 0, _, _, _ => rfl
  | k + 1, depth, l, n => by
    rw [rdV_succ, rdX_succ]
    by_cases h1 : begs (pk l) = false
    · rw [if_pos h1, if_pos h1]; rfl
    rw [if_neg h1, if_neg h1]
    by_cases h2 : n + 1 > 12
    · rw [if_pos h2, if_pos h2]; rfl
    rw [if_neg h2, if_neg h2]
    by_cases h3 : pk l = 110
    · rw [if_pos h3, if_pos h3]
      have := wantX_is [110, 111, 110, 101] l (by decide)
      cases hw : wantX [110, 111, 110, 101] l with
      | error e =>
        rw [hw] at this
        have hn : ¬ l.take 4 = [110, 111, 110, 101] := fun e => by
          rw [if_pos (show l.take [(110 : UInt8), 111, 110, 101].length = _ from e)] at this
          cases this
        rw [if_neg hn]; rfl
      | ok r =>
        rw [hw] at this
        by_cases hn : l.take 4 = [110, 111, 110, 101]
        · rw [if_pos (show l.take [(110 : UInt8), 111, 110, 101].length = _ from hn)] at this
          rw [if_pos hn]
          have e : l.drop 4 = r := by simpa [Except.toOption] using this
          rw [e]; rfl
        · rw [if_neg (show ¬ l.take [(110 : UInt8), 111, 110, 101].length = _ from hn)] at this
          cases this
    rw [if_neg h3, if_neg h3]
    by_cases h4 : pk l = 34
    · rw [if_pos h4, if_pos h4, rtextX_is]
      cases rtextX l <;> rfl
    rw [if_neg h4, if_neg h4]
    by_cases h5 : pk l = 91
    · rw [if_pos h5, if_pos h5]
      exact rlistX_is _ _ (fun l n => rdX_is k (depth + 1) l n) depth l (n + 1)
    rw [if_neg h5, if_neg h5, rintX_is]
    cases rintX l <;> rfl
theorem rdX_ok {k : Nat} {depth : Int} {l : List UInt8} {n : Int} {y : VT × List UInt8 × Int} (h : rdX k depth l n = .ok y) : rdV k depth l n = some y := by rw [rdX_is, h]; rfl
end Go.Proofs.YtkebljkdkaagfaaGreatDoor.V
