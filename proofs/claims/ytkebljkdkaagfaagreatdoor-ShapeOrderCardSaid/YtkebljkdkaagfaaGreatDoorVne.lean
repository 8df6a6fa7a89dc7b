/- Faults of a value have a number. -/
import Derived.Test.YtkebljkdkaagfaaGreatDoorRdz
namespace Go.Proofs.YtkebljkdkaagfaaGreatDoor.V
open Go Tr
set_option maxRecDepth 100000
def Ne0 {α : Type} : Except Flt α → Prop
  | .ok _ => True
  | .error f => f.1 ≠ 0
theorem escX_ne (l : List UInt8) : Ne0 (escX l) := by
  unfold escX
  repeat' split
  all_goals first | trivial | (show (28 : Int) ≠ 0; decide)
theorem readX_ne : ∀ (k : Nat) (acc l : List UInt8), Ne0 (readX k acc l)
  | 0, _, _ => by show (28 : Int) ≠ 0; decide
  | k + 1, acc, l => by
    unfold readX
    have he := escX_ne l.tail
    split
    · trivial
    split
    · split
      · rename_i h; rw [h] at he; exact he
      · exact readX_ne k _ _
    split
    · exact readX_ne k _ _
    split
    · show (28 : Int) ≠ 0; decide
    · exact readX_ne k _ _
theorem rtextX_ne (l : List UInt8) : Ne0 (rtextX l) := by
  unfold rtextX
  have h := readX_ne (l.tail.length + 1) [] l.tail
  split
  · rename_i e he; rw [he] at h; exact h
  · split
    · show (21 : Int) ≠ 0; decide
    · trivial
theorem rdigX_ne (f : Nat) (neg : Bool) (l : List UInt8) : Ne0 (rdigX f neg l) := by
  unfold rdigX
  repeat' split
  all_goals first | trivial | (show (28 : Int) ≠ 0; decide) | (show (29 : Int) ≠ 0; decide)
theorem rintX_ne (l : List UInt8) : Ne0 (rintX l) := by
  unfold rintX
  split <;> exact rdigX_ne _ _ _
theorem wantX_ne : ∀ (w l : List UInt8), Ne0 (wantX w l)
  | [], _ => trivial
  | c :: w, l => by
    unfold wantX
    split
    · exact wantX_ne w _
    · show (28 : Int) ≠ 0; decide
theorem ritemsX_ne (f : List UInt8 → Int → Except Flt (VT × List UInt8 × Int)) (hf : ∀ l n, Ne0 (f l n)) : ∀ (m : Nat) (acc : List VT) (l : List UInt8) (n : Int), Ne0 (ritemsX f m acc l n)
  | 0, _, _, _ => by show (22 : Int) ≠ 0; decide
  | m + 1, acc, l, n => by
    unfold ritemsX
    have h := hf l n
    split
    · rename_i e he; rw [he] at h; exact h
    · split
      · trivial
      · split
        · split
          · show (22 : Int) ≠ 0; decide
          · exact ritemsX_ne f hf m _ _ _
        · show (28 : Int) ≠ 0; decide
theorem rlistX_ne (f : List UInt8 → Int → Except Flt (VT × List UInt8 × Int)) (hf : ∀ l n, Ne0 (f l n)) (d : Int) (l : List UInt8) (n : Int) : Ne0 (rlistX f d l n) := by
  unfold rlistX
  have h := ritemsX_ne f hf 6 [] (blanksM l.tail) n
  split
  · show (23 : Int) ≠ 0; decide
  split
  · trivial
  split
  · rename_i e he; rw [he] at h; exact h
  · trivial
theorem rdX_ne : ∀ (k : Nat) (d : Int) (l : List UInt8) (n : Int), Ne0 (rdX k d l n)
  | 0, _, _, _ => by show (28 : Int) ≠ 0; decide
  | k + 1, d, l, n => by
    rw [rdX_succ]
    have h1 := wantX_ne [110, 111, 110, 101] l
    have h2 := rtextX_ne l
    have h3 := rintX_ne l
    split
    · show (28 : Int) ≠ 0; decide
    split
    · show (22 : Int) ≠ 0; decide
    split
    · split
      · rename_i e he; rw [he] at h1; exact h1
      · trivial
    split
    · split
      · rename_i e he; rw [he] at h2; exact h2
      · trivial
    split
    · exact rlistX_ne _ (fun l n => rdX_ne k _ l n) _ _ _
    split
    · rename_i e he; rw [he] at h3; exact h3
    · trivial
theorem parseX_ne (l : List UInt8) : Ne0 (parseX l) := by
  unfold parseX
  have h := rdX_ne 4 0 (blanksM l) 0
  split
  · rename_i e he; rw [he] at h; exact h
  · split
    · trivial
    · show (28 : Int) ≠ 0; decide
theorem parseX_er {l : List UInt8} {f : Flt} (h : parseX l = .error f) : f.1 ≠ 0 := by
  have := parseX_ne l
  rw [h] at this
  exact this
end Go.Proofs.YtkebljkdkaagfaaGreatDoor.V
