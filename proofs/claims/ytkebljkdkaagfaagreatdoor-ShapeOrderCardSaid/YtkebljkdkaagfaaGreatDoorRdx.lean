/- Print: a value's text. What reads a value's text, plainly: numerals and quoted texts told again; the reader as a model on lists of bytes, its faults and all. -/
import Derived.Test.YtkebljkdkaagfaaGreatDoorFit
import Derived.Lib.ItoaLen
import Derived.Lib.AppendIntMem
import Derived.Lib.MapLaws
import Derived.Lib.QuoteLoop
namespace Go.Proofs.YtkebljkdkaagfaaGreatDoor
open Go Tr
open Go.Lib (byteCells strCells)
open Go.RowKit (Below)
set_option maxRecDepth 100000
/-! ### The tables -/
def Tabs (w : World) : Prop := Lib.Utf8Tabs 3 4 w ∧ Lib.TabIs Tryz.prog w "internal/strconv.uint64pow10" .u64 Lib.pow10Tab
theorem few_globals : (Tryz.prog.globalNamed "internal/strconv.uint64pow10").any (fun g => decide (g < 11)) = true := by kernel_rfl
theorem Tabs.ch {w w' : World} {base : Nat} (h : Tabs w) (hc : Ch (base ≤ ·) w w') (hb : 11 ≤ base) : Tabs w' := by
  refine ⟨Tabs_ch h.1 hc (by omega), ?_⟩
  have h2 := h.2
  have hf := few_globals
  unfold Lib.TabIs World.var? at h2 ⊢
  cases hg : Tryz.prog.globalNamed "internal/strconv.uint64pow10" with
  | none => rw [hg] at h2; cases h2
  | some g =>
    rw [hg] at h2 hf
    simp only [Option.any_some, decide_eq_true_eq] at hf
    simp only [Option.bind_some] at h2 ⊢
    have hlt : g < w.heap.size := by
      rcases Nat.lt_or_ge g w.heap.size with h' | h'
      · exact h'
      · rw [Array.getElem?_eq_none h'] at h2; cases h2
    rw [hc.block g hlt (fun (h : base ≤ g) => by omega)]
    exact h2
theorem Tabs.no {w w' : World} (h : Tabs w) (hc : Ch No w w') : Tabs w' := h.ch (base := w.heap.size + 11) (hc.mono fun _ h => h.elim) (by omega)
/-! the tree of function 129 -/
/-! the tree of function 116 -/
/-! the tree of function 97 -/
/-! ### What is printed -/
end Go.Proofs.YtkebljkdkaagfaaGreatDoor
namespace Go.Proofs.YtkebljkdkaagfaaGreatDoor.V
open Go
def dval (l : List UInt8) : Nat := l.foldl (fun a c => a * 10 + (c.toNat - 48)) 0
end Go.Proofs.YtkebljkdkaagfaaGreatDoor.V
namespace Go.Proofs.YtkebljkdkaagfaaGreatDoor.V
open Go
open Go.Lib (decodeL decodeN)
/-- A hex digit's worth. -/
def hexV (c : UInt8) : Option Nat :=
  if 48 ≤ c.toNat ∧ c.toNat ≤ 57 then some (c.toNat - 48)
  else if 97 ≤ c.toNat ∧ c.toNat ≤ 102 then some (c.toNat - 87)
  else if 65 ≤ c.toNat ∧ c.toNat ≤ 70 then some (c.toNat - 55)
  else none
/-- What a quoted text's body stands for, and what follows the closing quote. -/
def readQ : Nat → List UInt8 → List UInt8 → Option (List UInt8 × List UInt8)
  | 0, _, _ => none
  | _ + 1, _, [] => none
  | k + 1, acc, c :: t =>
    if c = 34 then some (acc, t)
    else if c = 92 then
      match t with
      | [] => none
      | e :: t => if e = 34 ∨ e = 92 then readQ k (acc ++ [e]) t
        else if e = 110 then readQ k (acc ++ [10]) t
        else if e = 116 then readQ k (acc ++ [9]) t
        else if e = 120 then
          match t with
          | a :: b :: t => match hexV a, hexV b with
            | some x, some y => readQ k (acc ++ [UInt8.ofNat (x * 16 + y)]) t
            | _, _ => none
          | _ => none
        else none
    else if 32 ≤ c.toNat ∧ c.toNat ≤ 126 then readQ k (acc ++ [c]) t
    else if c.toNat < 128 ∨ (decodeL (c :: t)).2 < 2 then none
    else readQ k (acc ++ (c :: t).take (decodeL (c :: t)).2) ((c :: t).drop (decodeL (c :: t)).2)
theorem drop_decode (s : ByteArray) (pos : Nat) : Utf8.decode s pos = decodeL (s.data.toList.drop pos) := by
  rw [Lib.decode_N, Lib.decodeL_N]
  simp [List.getD_eq_getElem?_getD, List.getElem?_drop]
end Go.Proofs.YtkebljkdkaagfaaGreatDoor.V
namespace Go.Proofs.YtkebljkdkaagfaaGreatDoor.V
open Go Tr
set_option maxRecDepth 100000
def pk : List UInt8 → Nat
  | [] => 0
  | c :: _ => c.toNat
def isBl (c : UInt8) : Bool := decide (c.toNat = 32) || decide (c.toNat = 9)
def isDig (c : UInt8) : Bool := decide (48 ≤ c.toNat) && decide (c.toNat ≤ 57)
def blanksM (l : List UInt8) : List UInt8 := l.dropWhile isBl
def numM (neg : Bool) (ds : List UInt8) : Option Int :=
  if neg = true then (if dval ds ≤ 9223372036854775808 then some (-(dval ds : Int)) else none) else (if dval ds < 9223372036854775808 then some (dval ds : Int) else none)
/-- A numeral without its sign. -/
def rdigM (neg : Bool) (l : List UInt8) : Option (Int × List UInt8) :=
  if pk l = 48 then (if neg = true then none else some (0, l.tail))
  else if l.takeWhile isDig = [] then none
  else match numM neg (l.takeWhile isDig) with
    | none => none
    | some v => some (v, l.dropWhile isDig)
def rintM (l : List UInt8) : Option (Int × List UInt8) := if pk l = 45 then rdigM true l.tail else rdigM false l
def rtextM (l : List UInt8) : Option (ByteArray × List UInt8) :=
  match readQ (l.length + 1) [] l with
  | none => none
  | some (b, r) => if b.length > 24 then none else some (⟨b.toArray⟩, r)
def ritems (f : List UInt8 → Int → Option (VT × List UInt8 × Int)) : Nat → List VT → List UInt8 → Int → Option (List VT × List UInt8 × Int)
  | 0, _, _, _ => none
  | m + 1, acc, l, n => match f l n with
    | none => none
    | some (x, l1, n1) => if pk (blanksM l1) = 93 then some (acc ++ [x], (blanksM l1).tail, n1)
      else if pk (blanksM l1) = 44 then ritems f m (acc ++ [x]) (blanksM (blanksM l1).tail) n1
      else none
def rlistM (f : List UInt8 → Int → Option (VT × List UInt8 × Int)) (depth : Int) (l : List UInt8) (n : Int) : Option (VT × List UInt8 × Int) :=
  if depth ≥ 3 then none
  else if pk (blanksM l.tail) = 93 then some (.mk 3 0 (bytesL []) [], (blanksM l.tail).tail, n)
  else match ritems f 6 [] (blanksM l.tail) n with
    | none => none
    | some (xs, l2, n2) => some (.mk 3 0 (bytesL []) xs, l2, n2)
def begs (c : Nat) : Bool := decide (c = 110 ∨ c = 45 ∨ c = 34 ∨ c = 91 ∨ (48 ≤ c ∧ c ≤ 57))
/-- What the reader reads. -/
def rdV : Nat → Int → List UInt8 → Int → Option (VT × List UInt8 × Int)
  | 0, _, _, _ => none
  | k + 1, depth, l, n =>
    if begs (pk l) = false then none
    else if n + 1 > 12 then none
    else if pk l = 110 then (if l.take 4 = [110, 111, 110, 101] then some (noneV, l.drop 4, n + 1) else none)
    else if pk l = 34 then match rtextM l.tail with
      | none => none
      | some (s, r) => some (.mk 2 0 s [], r, n + 1)
    else if pk l = 91 then rlistM (rdV k (depth + 1)) depth l (n + 1)
    else match rintM l with
      | none => none
      | some (v, r) => some (.mk 1 v (bytesL []) [], r, n + 1)
theorem rdV_succ (k : Nat) (depth : Int) (l : List UInt8) (n : Int) : rdV (k + 1) depth l n = (if begs (pk l) = false then none
    else if n + 1 > 12 then none
    else if pk l = 110 then (if l.take 4 = [110, 111, 110, 101] then some (noneV, l.drop 4, n + 1) else none)
    else if pk l = 34 then match rtextM l.tail with
      | none => none
      | some (s, r) => some (.mk 2 0 s [], r, n + 1)
    else if pk l = 91 then rlistM (rdV k (depth + 1)) depth l (n + 1)
    else match rintM l with
      | none => none
      | some (v, r) => some (.mk 1 v (bytesL []) [], r, n + 1)) := rfl
end Go.Proofs.YtkebljkdkaagfaaGreatDoor.V
namespace Go.Proofs.YtkebljkdkaagfaaGreatDoor.V
open Go Tr
open Go.Lib (decodeL)
set_option maxRecDepth 100000
/-- A hex digit's worth, of what peek tells. -/
def hexP (c : Nat) : Option Nat :=
  if 48 ≤ c ∧ c ≤ 57 then some (c - 48)
  else if 97 ≤ c ∧ c ≤ 102 then some (c - 87)
  else if 65 ≤ c ∧ c ≤ 70 then some (c - 55)
  else none
theorem hexP_lt {c x : Nat} (h : hexP c = some x) : x < 16 := by
  unfold hexP at h
  split at h
  · cases h; omega
  split at h
  · cases h; omega
  split at h
  · cases h; omega
  · cases h
/-- A fault: its number, how many bytes stand from its place on. -/
abbrev Flt := Int × Nat
def wantX : List UInt8 → List UInt8 → Except Flt (List UInt8)
  | [], l => .ok l
  | c :: w, l => if pk l = c.toNat then wantX w l.tail else .error (28, l.length)
def escX (l : List UInt8) : Except Flt (UInt8 × List UInt8) :=
  if pk l = 34 then .ok (34, l.tail) else if pk l = 92 then .ok (92, l.tail) else if pk l = 110 then .ok (10, l.tail) else if pk l = 116 then .ok (9, l.tail)
  else if pk l = 120 then match hexP (pk l.tail) with
    | none => .error (28, l.tail.length)
    | some x => match hexP (pk l.tail.tail) with
      | none => .error (28, l.tail.tail.length)
      | some y => .ok (UInt8.ofNat (x * 16 + y), l.tail.tail.tail)
  else .error (28, l.length)
def readX : Nat → List UInt8 → List UInt8 → Except Flt (List UInt8 × List UInt8)
  | 0, _, l => .error (28, l.length)
  | k + 1, acc, l =>
    if pk l = 34 then .ok (acc, l.tail)
    else if pk l = 92 then match escX l.tail with
      | .error e => .error e
      | .ok (b, r) => readX k (acc ++ [b]) r
    else if 32 ≤ pk l ∧ pk l ≤ 126 then readX k (acc ++ [UInt8.ofNat (pk l)]) l.tail
    else if pk l < 128 ∨ (decodeL l).2 < 2 then .error (28, l.length)
    else readX k (acc ++ l.take (decodeL l).2) (l.drop (decodeL l).2)
/-- Of a text from its first quote on. -/
def rtextX (l : List UInt8) : Except Flt (ByteArray × List UInt8) :=
  match readX (l.tail.length + 1) [] l.tail with
  | .error e => .error e
  | .ok (b, r) => if b.length > 24 then .error (21, l.length) else .ok (⟨b.toArray⟩, r)
def rdigX (from_ : Nat) (neg : Bool) (l : List UInt8) : Except Flt (Int × List UInt8) :=
  if pk l = 48 then (if neg = true then .error (28, l.length) else .ok (0, l.tail))
  else if l.takeWhile isDig = [] then .error (28, l.length)
  else match numM neg (l.takeWhile isDig) with
    | none => .error (29, from_)
    | some v => .ok (v, l.dropWhile isDig)
def rintX (l : List UInt8) : Except Flt (Int × List UInt8) := if pk l = 45 then rdigX l.length true l.tail else rdigX l.length false l
def ritemsX (f : List UInt8 → Int → Except Flt (VT × List UInt8 × Int)) : Nat → List VT → List UInt8 → Int → Except Flt (List VT × List UInt8 × Int)
  | 0, _, l, _ => .error (22, l.length)
  | m + 1, acc, l, n => match f l n with
    | .error e => .error e
    | .ok (x, l1, n1) => if pk (blanksM l1) = 93 then .ok (acc ++ [x], (blanksM l1).tail, n1)
      else if pk (blanksM l1) = 44 then (if m = 0 then .error (22, (blanksM l1).length) else ritemsX f m (acc ++ [x]) (blanksM (blanksM l1).tail) n1)
      else .error (28, (blanksM l1).length)
def rlistX (f : List UInt8 → Int → Except Flt (VT × List UInt8 × Int)) (depth : Int) (l : List UInt8) (n : Int) : Except Flt (VT × List UInt8 × Int) :=
  if depth ≥ 3 then .error (23, l.length)
  else if pk (blanksM l.tail) = 93 then .ok (.mk 3 0 (bytesL []) [], (blanksM l.tail).tail, n)
  else match ritemsX f 6 [] (blanksM l.tail) n with
    | .error e => .error e
    | .ok (xs, l2, n2) => .ok (.mk 3 0 (bytesL []) xs, l2, n2)
/-- What the reader reads, or its fault. -/
def rdX : Nat → Int → List UInt8 → Int → Except Flt (VT × List UInt8 × Int)
  | 0, _, l, _ => .error (28, l.length)
  | k + 1, depth, l, n =>
    if begs (pk l) = false then .error (28, l.length)
    else if n + 1 > 12 then .error (22, l.length)
    else if pk l = 110 then match wantX [110, 111, 110, 101] l with
      | .error e => .error e
      | .ok r => .ok (noneV, r, n + 1)
    else if pk l = 34 then match rtextX l with
      | .error e => .error e
      | .ok (s, r) => .ok (.mk 2 0 s [], r, n + 1)
    else if pk l = 91 then rlistX (rdX k (depth + 1)) depth l (n + 1)
    else match rintX l with
      | .error e => .error e
      | .ok (v, r) => .ok (.mk 1 v (bytesL []) [], r, n + 1)
theorem rdX_succ (k : Nat) (depth : Int) (l : List UInt8) (n : Int) : rdX (k + 1) depth l n = (if begs (pk l) = false then .error (28, l.length)
    else if n + 1 > 12 then .error (22, l.length)
    else if pk l = 110 then match wantX [110, 111, 110, 101] l with
      | .error e => .error e
      | .ok r => .ok (noneV, r, n + 1)
    else if pk l = 34 then match rtextX l with
      | .error e => .error e
      | .ok (s, r) => .ok (.mk 2 0 s [], r, n + 1)
    else if pk l = 91 then rlistX (rdX k (depth + 1)) depth l (n + 1)
    else match rintX l with
      | .error e => .error e
      | .ok (v, r) => .ok (.mk 1 v (bytesL []) [], r, n + 1)) := rfl
/-- A text that is one value, blanks around it. -/
def parseX (l : List UInt8) : Except Flt (VT × Int) :=
  match rdX 4 0 (blanksM l) 0 with
  | .error e => .error e
  | .ok (x, l1, n) => if blanksM l1 = [] then .ok (x, n) else .error (28, (blanksM l1).length)
theorem readX_back (k : Nat) (acc l : List UInt8) (h : pk l = 92) : readX (k + 1) acc l = (match escX l.tail with
    | .error e => .error e
    | .ok (b, r) => readX k (acc ++ [b]) r) := by
  conv => lhs; unfold readX
  rw [if_neg (by omega), if_pos h]
theorem readX_end (k : Nat) (acc l : List UInt8) (h : pk l = 34) : readX (k + 1) acc l = .ok (acc, l.tail) := by
  conv => lhs; unfold readX
  rw [if_pos h]
theorem readX_plain (k : Nat) (acc l : List UInt8) (h1 : pk l ≠ 34) (h2 : pk l ≠ 92) (h3 : 32 ≤ pk l ∧ pk l ≤ 126) : readX (k + 1) acc l = readX k (acc ++ [UInt8.ofNat (pk l)]) l.tail := by
  conv => lhs; unfold readX
  rw [if_neg h1, if_neg h2, if_pos h3]
theorem readX_rune (k : Nat) (acc l : List UInt8) (h1 : pk l ≠ 34) (h2 : pk l ≠ 92) (h3 : ¬ (32 ≤ pk l ∧ pk l ≤ 126)) : readX (k + 1) acc l = (if pk l < 128 ∨ (decodeL l).2 < 2 then .error (28, l.length) else readX k (acc ++ l.take (decodeL l).2) (l.drop (decodeL l).2)) := by
  conv => lhs; unfold readX
  rw [if_neg h1, if_neg h2, if_neg h3]
end Go.Proofs.YtkebljkdkaagfaaGreatDoor.V
