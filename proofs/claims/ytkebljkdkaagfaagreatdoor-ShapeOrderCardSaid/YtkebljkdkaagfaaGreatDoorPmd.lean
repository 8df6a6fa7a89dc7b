/- The parser of expressions as a function: its tokens, its levels, its trees. -/
import Derived.Test.YtkebljkdkaagfaaGreatDoorRdx
namespace Go.Proofs.YtkebljkdkaagfaaGreatDoor.E
open Go Tr
set_option maxRecDepth 100000
abbrev Txt := List UInt8
/-- A fault's number and place; (0, 0): the reckoning was not let go on. -/
abbrev Er := Nat × Nat
/-- A tree. -/
inductive N where
  | num (n : Int)
  | quo (s : Txt)
  | wrd (w : Txt)
  | un (op : Txt) (a : N)
  | bin (op : Txt) (a b : N)
  | cnd (c a b : N)
  | lst (l : List N)
  | cal (f : Nat) (l : List N)
/-- A token: its kind (0 the end, 1 a number, 2 a word, 3 a text, 4 a sign), its place, what it is. -/
structure Tk where
  kind : Nat
  at_ : Nat
  text : Txt
  num : Nat
/-- What is left of the text behind the token that was looked at; that token; how many brackets are open. -/
structure PS where
  l : Txt
  tok : Option Tk
  op : Nat
abbrev R (α : Type) := Except Er (α × PS)
def isD (c : UInt8) : Bool := decide (48 ≤ c.toNat) && decide (c.toNat ≤ 57)
def isL (c : UInt8) : Bool := decide (97 ≤ c.toNat) && decide (c.toNat ≤ 122)
def skB : Txt → Txt
  | [] => []
  | c :: r => if c = 32 then skB r else c :: r
def numB : Nat → Txt → Option (Nat × Txt)
  | n, [] => some (n, [])
  | n, c :: r => if isD c = true then (if (9223372036854775807 - (c.toNat - 48)) / 10 < n then none else numB (10 * n + (c.toNat - 48)) r) else some (n, c :: r)
/-- How many bytes behind a quote belong to the text; odd: is the number of backslashes that stand here odd? -/
def cloB : Bool → Txt → Nat
  | _, [] => 0
  | odd, c :: r => if c = 34 ∧ odd = false then 1 else 1 + cloB (decide (c = 92) && !odd) r
def quoB (l : Txt) : Option (Txt × Txt) :=
  let n := 1 + cloB false l.tail
  if (l.take n).any (fun c => decide (c.toNat < 32) || decide (126 < c.toNat)) = true then none
  else match V.parseX (l.take n) with
    | .ok (x, _) => some (x.text.data.toList, l.drop n)
    | .error _ => none
def tKey : Txt := [107, 101, 121]
def tVal : Txt := [118, 97, 108]
def tAcc : Txt := [97, 99, 99]
def tHops : Txt := [104, 111, 112, 115]
def tNone : Txt := [110, 111, 110, 101]
def tIf : Txt := [105, 102]
def tThen : Txt := [116, 104, 101, 110]
def tElse : Txt := [101, 108, 115, 101]
def tAnd : Txt := [97, 110, 100]
def tOr : Txt := [111, 114]
def tNot : Txt := [110, 111, 116]
def plainM : List Txt := [tKey, tVal, tAcc, tHops, tNone]
def wordsM : List Txt := [tKey, tVal, tAcc, tHops, tNone, tIf, tThen, tElse, tAnd, tOr, tNot]
/-- The calls: names, how many values they take. -/
def callsM : List (Txt × Nat) := [([108, 101, 110], 1), ([107, 105, 110, 100], 1), ([105, 110, 116], 1), ([116, 101, 120, 116], 1), ([115, 117, 109], 1), ([115, 111, 114, 116], 1), ([114, 101, 118], 1),
  ([97, 116], 2), ([116, 97, 107, 101], 2), ([100, 114, 111, 112], 2), ([109, 105, 110], 2), ([109, 97, 120], 2), ([104, 97, 115], 2), ([112, 117, 116], 3)]
def findB (w : Txt) : Option Nat := callsM.findIdx? (fun p => p.1 == w)
def takesB (i : Nat) : Nat := (callsM[i]?).elim 0 (·.2)
def nameB (i : Nat) : Txt := (callsM[i]?).elim [] (·.1)
def sLe : Txt := [60, 61]
def sGe : Txt := [62, 61]
def sEq : Txt := [61, 61]
def sNe : Txt := [33, 61]
def sPlus : Txt := [43]
def sMinus : Txt := [45]
def sMul : Txt := [42]
def sDiv : Txt := [47]
def sMod : Txt := [37]
def sLp : Txt := [40]
def sRp : Txt := [41]
def sLb : Txt := [91]
def sRb : Txt := [93]
def sCom : Txt := [44]
def sLt : Txt := [60]
def sGt : Txt := [62]
def signsM : List Txt := [sLe, sGe, sEq, sNe, sPlus, sMinus, sMul, sDiv, sMod, sLp, sRp, sLb, sRb, sCom, sLt, sGt]
def signB (l : Txt) : Option Txt := signsM.find? (fun s => s.isPrefixOf l)
/-- The token that begins behind blanks; L: the text's length. -/
def lexB (L : Nat) (l0 : Txt) : Except Er (Tk × Txt) :=
  match skB l0 with
  | [] => .ok (⟨0, L, [], 0⟩, [])
  | c :: r =>
    if isD c = true then match numB 0 (c :: r) with
      | none => .error (32, L - (c :: r).length)
      | some (n, r') => .ok (⟨1, L - (c :: r).length, [], n⟩, r')
    else if isL c = true then
      (if wordsM.contains ((c :: r).takeWhile isL) = true ∨ (findB ((c :: r).takeWhile isL)).isSome = true then .ok (⟨2, L - (c :: r).length, (c :: r).takeWhile isL, 0⟩, (c :: r).dropWhile isL)
      else .error (34, L - (c :: r).length))
    else if c = 34 then match quoB (c :: r) with
      | none => .error (33, L - (c :: r).length)
      | some (t, r') => .ok (⟨3, L - (c :: r).length, t, 0⟩, r')
    else match signB (c :: r) with
      | some s => .ok (⟨4, L - (c :: r).length, s, 0⟩, (c :: r).drop s.length)
      | none => .error (31, L - (c :: r).length)
section
variable (L : Nat)
def peekB (st : PS) : R Tk := match st.tok with
  | some t => .ok (t, st)
  | none => match lexB L st.l with
    | .error e => .error e
    | .ok (t, r) => .ok (t, ⟨r, some t, st.op⟩)
def dropB (st : PS) : PS := ⟨st.l, none, st.op⟩
def isB (t : Tk) (kind : Nat) (text : Txt) : Bool := decide (t.kind = kind) && (t.text == text)
def wantB (kind : Nat) (text : Txt) (st : PS) : R Unit := match peekB L st with
  | .error e => .error e
  | .ok (t, st) => if isB t kind text = true then
      (if kind = 4 ∧ (text = sLp ∨ text = sLb) then (if 10 < st.op + 1 then .error (35, t.at_) else .ok ((), ⟨st.l, none, st.op + 1⟩))
      else if kind = 4 ∧ (text = sRp ∨ text = sRb) then .ok ((), ⟨st.l, none, st.op - 1⟩)
      else .ok ((), dropB st))
    else .error (36, t.at_)
def bindR {α β : Type} (x : R α) (f : α → PS → R β) : R β := match x with
  | .error e => .error e
  | .ok (a, st) => f a st
def opOf (t : Tk) (kind : Nat) (ops : List Txt) : Option Txt := if t.kind = kind then ops.find? (fun o => o == t.text) else none
/-- Parts with an operator between each two. -/
def loopB (part : PS → R N) (kind : Nat) (ops : List Txt) : Nat → N → PS → R N
  | 0, _, _ => .error (0, 0)
  | f + 1, a, st => bindR (peekB L st) fun t st => match opOf t kind ops with
    | none => .ok (a, st)
    | some op => bindR (part (dropB st)) fun b st => loopB part kind ops f (.bin op a b) st
def itemsB (part : PS → R N) : Nat → List N → PS → R (List N)
  | 0, _, _ => .error (0, 0)
  | f + 1, acc, st => if acc.length < 6 then bindR (peekB L st) fun t st =>
        if isB t 4 sCom = true then bindR (part (dropB st)) fun n st => itemsB part f (acc ++ [n]) st else .ok (acc, st)
      else .ok (acc, st)
def argsB (part : PS → R N) : Nat → List N → PS → R (List N)
  | 0, acc, st => .ok (acc, st)
  | k + 1, acc, st => bindR (if acc = [] then .ok ((), st) else wantB L 4 sCom st) fun _ st => bindR (part st) fun n st => argsB part k (acc ++ [n]) st
inductive Lv where
  | expr | or | and | not | cmp | sum | term | neg | atom | list | call (i : Nat)
def cmpOps : List Txt := [sEq, sNe, sLt, sLe, sGt, sGe]
/-- What begins here, at this level. -/
def prs : Nat → Lv → PS → R N
  | 0, _, _ => .error (0, 0)
  | f + 1, .expr, st => bindR (peekB L st) fun t st => if isB t 2 tIf = true then
        bindR (prs f .expr (dropB st)) fun c st => bindR (wantB L 2 tThen st) fun _ st => bindR (prs f .expr st) fun a st => bindR (wantB L 2 tElse st) fun _ st => bindR (prs f .expr st) fun b st => .ok (.cnd c a b, st)
      else prs f .or st
  | f + 1, .or, st => bindR (prs f .and st) fun a st => loopB L (prs f .and) 2 [tOr] f a st
  | f + 1, .and, st => bindR (prs f .not st) fun a st => loopB L (prs f .not) 2 [tAnd] f a st
  | f + 1, .not, st => bindR (peekB L st) fun t st => if isB t 2 tNot = true then bindR (prs f .not (dropB st)) fun a st => .ok (.un tNot a, st) else prs f .cmp st
  | f + 1, .cmp, st => bindR (prs f .sum st) fun a st => bindR (peekB L st) fun t st => match opOf t 4 cmpOps with
      | none => .ok (a, st)
      | some op => bindR (prs f .sum (dropB st)) fun b st => .ok (.bin op a b, st)
  | f + 1, .sum, st => bindR (prs f .term st) fun a st => loopB L (prs f .term) 4 [sPlus, sMinus] f a st
  | f + 1, .term, st => bindR (prs f .neg st) fun a st => loopB L (prs f .neg) 4 [sMul, sDiv, sMod] f a st
  | f + 1, .neg, st => bindR (peekB L st) fun t st => if isB t 4 sMinus = true then bindR (prs f .neg (dropB st)) fun a st => .ok (.un sMinus a, st) else prs f .atom st
  | f + 1, .atom, st => bindR (peekB L st) fun t st =>
      if t.kind = 1 then .ok (.num t.num, dropB st)
      else if t.kind = 3 then .ok (.quo t.text, dropB st)
      else if isB t 4 sLp = true then bindR (wantB L 4 sLp st) fun _ st => bindR (prs f .expr st) fun n st => bindR (wantB L 4 sRp st) fun _ st => .ok (n, st)
      else if isB t 4 sLb = true then prs f .list st
      else if t.kind = 2 then (match findB t.text with
        | some i => prs f (.call i) st
        | none => if plainM.contains t.text = true then .ok (.wrd t.text, dropB st) else .error (36, t.at_))
      else .error (36, t.at_)
  | f + 1, .list, st => bindR (wantB L 4 sLb st) fun _ st => bindR (peekB L st) fun t st =>
      if isB t 4 sRb = true then bindR (wantB L 4 sRb st) fun _ st => .ok (.lst [], st)
      else bindR (prs f .expr st) fun n st => bindR (itemsB L (prs f .expr) f [n] st) fun l st => bindR (wantB L 4 sRb st) fun _ st => .ok (.lst l, st)
  | f + 1, .call i, st => bindR (peekB L st) fun _ st => bindR (wantB L 4 sLp (dropB st)) fun _ st => bindR (argsB L (prs f .expr) (takesB i) [] st) fun l st => bindR (wantB L 4 sRp st) fun _ st => .ok (.cal i l, st)
end
/-- The tree of a text, or its first fault. -/
def parseE (l : Txt) : Except Er N :=
  if 100 < l.length then .error (30, 0) else
  match prs l.length (12 * l.length + 13) .expr ⟨l, none, 0⟩ with
  | .error e => .error e
  | .ok (n, st) => match peekB l.length st with
    | .error e => .error e
    | .ok (t, _) => if t.kind = 0 then .ok n else .error (36, t.at_)
end Go.Proofs.YtkebljkdkaagfaaGreatDoor.E
