/- What reads a value's text: a model on lists of bytes. -/
import Derived.Test.YtjellmblammiaaaDoorDcm
namespace Go.Proofs.YtjellmblammiaaaDoor
open Go Tr
set_option maxRecDepth 100000
def pk : List UInt8 → Nat
  | [] => 0
  | c :: _ => c.toNat
def isBl (c : UInt8) : Bool := decide (c.toNat = 32) || decide (c.toNat = 9)
def isDig (c : UInt8) : Bool := decide (48 ≤ c.toNat) && decide (c.toNat ≤ 57)
def blanksM (l : List UInt8) : List UInt8 := l.dropWhile isBl
def numM (neg : Bool) (ds : List UInt8) : Option Int :=
  if neg = true then (if dval ds ≤ 9223372036854775808 then some (-(dval ds : Int)) else none) else (if dval ds < 9223372036854775808 then some (dval ds : Int) else none)
/-- A numeral without its sign. -/
def rdigM (neg : Bool) (l : List UInt8) : Option (Int × List UInt8) :=
  if pk l = 48 then (if neg = true then none else some (0, l.tail))
  else if l.takeWhile isDig = [] then none
  else match numM neg (l.takeWhile isDig) with
    | none => none
    | some v => some (v, l.dropWhile isDig)
def rintM (l : List UInt8) : Option (Int × List UInt8) := if pk l = 45 then rdigM true l.tail else rdigM false l
def rtextM (l : List UInt8) : Option (ByteArray × List UInt8) :=
  match readQ (l.length + 1) [] l with
  | none => none
  | some (b, r) => if b.length > 24 then none else some (⟨b.toArray⟩, r)
def ritems (f : List UInt8 → Int → Option (VT × List UInt8 × Int)) : Nat → List VT → List UInt8 → Int → Option (List VT × List UInt8 × Int)
  | 0, _, _, _ => none
  | m + 1, acc, l, n => match f l n with
    | none => none
    | some (x, l1, n1) => if pk (blanksM l1) = 93 then some (acc ++ [x], (blanksM l1).tail, n1)
      else if pk (blanksM l1) = 44 then ritems f m (acc ++ [x]) (blanksM (blanksM l1).tail) n1
      else none
def rlistM (f : List UInt8 → Int → Option (VT × List UInt8 × Int)) (depth : Int) (l : List UInt8) (n : Int) : Option (VT × List UInt8 × Int) :=
  if depth ≥ 3 then none
  else if pk (blanksM l.tail) = 93 then some (.mk 3 0 (bytesL []) [], (blanksM l.tail).tail, n)
  else match ritems f 6 [] (blanksM l.tail) n with
    | none => none
    | some (xs, l2, n2) => some (.mk 3 0 (bytesL []) xs, l2, n2)
def begs (c : Nat) : Bool := decide (c = 110 ∨ c = 45 ∨ c = 34 ∨ c = 91 ∨ (48 ≤ c ∧ c ≤ 57))
/-- What the reader reads. -/
def rdV : Nat → Int → List UInt8 → Int → Option (VT × List UInt8 × Int)
  | 0, _, _, _ => none
  | k + 1, depth, l, n =>
    if begs (pk l) = false then none
    else if n + 1 > 12 then none
    else if pk l = 110 then (if l.take 4 = [110, 111, 110, 101] then some (noneV, l.drop 4, n + 1) else none)
    else if pk l = 34 then match rtextM l.tail with
      | none => none
      | some (s, r) => some (.mk 2 0 s [], r, n + 1)
    else if pk l = 91 then rlistM (rdV k (depth + 1)) depth l (n + 1)
    else match rintM l with
      | none => none
      | some (v, r) => some (.mk 1 v (bytesL []) [], r, n + 1)
theorem rdV_succ (k : Nat) (depth : Int) (l : List UInt8) (n : Int) : rdV (k + 1) depth l n = (if begs (pk l) = false then none
    else if n + 1 > 12 then none
    else if pk l = 110 then (if l.take 4 = [110, 111, 110, 101] then some (noneV, l.drop 4, n + 1) else none)
    else if pk l = 34 then match rtextM l.tail with
      | none => none
      | some (s, r) => some (.mk 2 0 s [], r, n + 1)
    else if pk l = 91 then rlistM (rdV k (depth + 1)) depth l (n + 1)
    else match rintM l with
      | none => none
      | some (v, r) => some (.mk 1 v (bytesL []) [], r, n + 1)) := rfl
end Go.Proofs.YtjellmblammiaaaDoor
