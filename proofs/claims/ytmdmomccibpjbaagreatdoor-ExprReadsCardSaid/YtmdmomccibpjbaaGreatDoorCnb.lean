/- The document's reader as a machine: steps for a stack, a list of what is open. The one form: tokens of a tree, pieces of its steps (plain). The one form: the tokens' text is the steps' piece (plain law). -/
import Derived.Test.YtmdmomccibpjbaaGreatDoorPwl
namespace Go.Proofs.YtmdmomccibpjbaaGreatDoor.E
open Go Tr
set_option maxRecDepth 100000
set_option maxHeartbeats 2000000
/-- One step for the stack. -/
structure SM where
 op : Txt
 n : Nat
 num : Int
 text : Txt
/-- Something that is open: an operator, or a barrier (level -1). -/
structure OM where
 op : Txt
 lv : Int
 cnt : Nat
def nNeg : Txt := [110,101,103]
def nNum : Txt := [110,117,109]
def nText : Txt := [116,101,120,116,33]
def nList : Txt := [108,105,115,116]
mutual
/-- A tree's steps, the operands first. -/
def flat : N → List SM
 | .num n => [⟨nNum,0,n,[]⟩]
 | .quo s => [⟨nText,0,0,s⟩]
 | .wrd w => [⟨w,0,0,[]⟩]
 | .un op a => flat a ++ [⟨if op = tNot then tNot else nNeg,1,0,[]⟩]
 | .bin op a b => flat a ++ (flat b ++ [⟨op,2,0,[]⟩])
 | .cnd c a b => flat c ++ (flat a ++ (flat b ++ [⟨tIf,3,0,[]⟩]))
 | .lst l => flats l ++ [⟨nList,l.length,0,[]⟩]
 | .cal i l => flats l ++ [⟨nameB i,l.length,0,[]⟩]
def flats : List N → List SM
 | [] => []
 | x :: l => flat x ++ flats l
end
theorem flats_app : ∀ (l m : List N),flats (l ++ m) = flats l ++ flats m
 | [],m => by simp [flats]
 | x :: l,m => by simp [flats,flats_app l m]
structure MS where
 want : Bool
 st : PS
 σ : List OM
 ω : List SM
def takesM (w : Txt) : Nat := (findB w).elim 0 takesB
def arity (op : Txt) : Nat := if op = nNeg ∨ op = tNot then 1 else 2
def endsM (lev : Int) : List OM → List SM → List OM × List SM
 | [],ω => ([],ω)
 | o :: σ,ω => if o.lv < lev ∨ o.lv < 0 then (o :: σ,ω) else endsM lev σ (ω ++ [⟨o.op,arity o.op,0,[]⟩])
def backM : List OM → List SM → List OM × List SM
 | [],ω => ([],ω)
 | o :: σ,ω => if 0 ≤ o.lv then backM σ (ω ++ [⟨o.op,arity o.op,0,[]⟩]) else if o.op = tElse then backM σ (ω ++ [⟨tIf,3,0,[]⟩]) else (o :: σ,ω)
def floorM : List OM → Int
 | [] => 0
 | o :: _ => if o.lv < 0 then 0 else if o.lv = 4 then 5 else if o.op = tNot then 3 else if o.op = nNeg then 7 else o.lv + 1
def topLv : List OM → Int
 | [] => -1
 | o :: _ => o.lv
def lvlS (x : Txt) : Nat := if x = sEq ∨ x = sNe ∨ x = sLt ∨ x = sLe ∨ x = sGt ∨ x = sGe then 4 else if x = sPlus ∨ x = sMinus then 5 else if x = sMul ∨ x = sDiv ∨ x = sMod then 6 else 0
/-- The level of a token that is an operator between two values. -/
def levelT (t : Tk) : Nat := if t.kind = 2 then (if t.text = tOr then 1 else if t.text = tAnd then 2 else 0) else if t.kind = 4 then lvlS t.text else 0
abbrev Res := Except Er (List SM ⊕ MS)
def bar (L : Nat) (t : Tk) (op : Txt) (st : PS) (σ : List OM) (ω : List SM) : Res :=
 if 10 < st.op + 1 then .error (35,t.at_) else .ok (.inr ⟨true,⟨st.l,none,st.op + 1⟩,⟨op,-1,0⟩ :: σ,ω⟩)
/-- A token where an operand is wanted; st: behind it. -/
def operandM (L : Nat) (t : Tk) (st : PS) (σ : List OM) (ω : List SM) : Res :=
 if t.kind = 1 then .ok (.inr ⟨false,st,σ,ω ++ [⟨nNum,0,t.num,[]⟩]⟩)
 else if t.kind = 3 then .ok (.inr ⟨false,st,σ,ω ++ [⟨nText,0,0,t.text⟩]⟩)
 else if t.kind = 4 then
  (if t.text = sMinus then .ok (.inr ⟨true,st,⟨nNeg,7,0⟩ :: σ,ω⟩)
  else if t.text = sLp ∨ t.text = sLb then bar L t t.text st σ ω
  else if t.text = sRb then (match σ with
   | [] => .error (36,t.at_)
   | o :: σ0 => if o.op = sLb ∧ o.lv < 0 ∧ o.cnt = 0 then .ok (.inr ⟨false,⟨st.l,none,st.op - 1⟩,σ0,ω ++ [⟨nList,0,0,[]⟩]⟩) else .error (36,t.at_))
  else .error (36,t.at_))
 else if t.kind = 2 then
  (if plainM.contains t.text = true then .ok (.inr ⟨false,st,σ,ω ++ [⟨t.text,0,0,[]⟩]⟩)
  else if t.text = tIf then (if 0 < floorM σ then .error (36,t.at_) else .ok (.inr ⟨true,st,⟨tIf,-1,0⟩ :: σ,ω⟩))
  else if t.text = tNot then (if 3 < floorM σ then .error (36,t.at_) else .ok (.inr ⟨true,st,⟨tNot,3,0⟩ :: σ,ω⟩))
  else match findB t.text with
   | none => .error (36,t.at_)
   | some _ => match peekB L st with
    | .error e => .error e
    | .ok (t2,st2) => if isB t2 4 sLp = true then bar L t2 t.text (dropB st2) σ ω else .error (36,t2.at_))
 else .error (36,t.at_)
def closesM (t : Tk) (st : PS) : List OM × List SM → Res
 | ([],_) => .error (36,t.at_)
 | (o :: σ,ω) => if t.text = sRb ∧ o.op = sLb then .ok (.inr ⟨false,⟨st.l,none,st.op - 1⟩,σ,ω ++ [⟨nList,o.cnt + 1,0,[]⟩]⟩)
  else if t.text = sRp ∧ o.op = sLp then .ok (.inr ⟨false,⟨st.l,none,st.op - 1⟩,σ,ω⟩)
  else if t.text = sRp ∧ takesM o.op = o.cnt + 1 then .ok (.inr ⟨false,⟨st.l,none,st.op - 1⟩,σ,ω ++ [⟨o.op,o.cnt + 1,0,[]⟩]⟩)
  else .error (36,t.at_)
def commaM (t : Tk) (st : PS) : List OM × List SM → Res
 | ([],_) => .error (36,t.at_)
 | (o :: σ,ω) => if (if o.op = sLb then 6 else takesM o.op) ≤ o.cnt + 1 then .error (36,t.at_) else .ok (.inr ⟨true,st,⟨o.op,o.lv,o.cnt + 1⟩ :: σ,ω⟩)
def thenM (t : Tk) (st : PS) : List OM × List SM → Res
 | ([],_) => .error (36,t.at_)
 | (o :: σ,ω) => if o.op = (if t.text = tElse then tThen else tIf) then .ok (.inr ⟨true,st,⟨t.text,-1,0⟩ :: σ,ω⟩) else .error (36,t.at_)
/-- A token behind an operand; st: behind it. -/
def behindM (t : Tk) (st : PS) (σ : List OM) (ω : List SM) : Res :=
 if 0 < levelT t then
  (if levelT t = 4 ∧ topLv (endsM 5 σ ω).1 = 4 then .error (36,t.at_)
  else .ok (.inr ⟨true,st,⟨t.text,(levelT t : Nat),0⟩ :: (endsM (if levelT t = 4 then 5 else (levelT t : Nat)) σ ω).1,(endsM (if levelT t = 4 then 5 else (levelT t : Nat)) σ ω).2⟩))
 else if t.kind = 4 ∧ (t.text = sRp ∨ t.text = sRb) then closesM t st (backM σ ω)
 else if t.kind = 4 ∧ t.text = sCom then commaM t st (backM σ ω)
 else if t.kind = 2 ∧ (t.text = tThen ∨ t.text = tElse) then thenM t st (backM σ ω)
 else .error (36,t.at_)
def stepM (L : Nat) (m : MS) : Res := match peekB L m.st with
 | .error e => .error e
 | .ok (t,st) => if t.kind = 0 then (if m.want = true then .error (36,t.at_) else match backM m.σ m.ω with
   | ([],ω) => .ok (.inl ω)
   | _ => .error (36,t.at_))
  else if m.want = true then operandM L t (dropB st) m.σ m.ω
  else behindM t (dropB st) m.σ m.ω
/-- What the machine comes to. -/
inductive Out (L : Nat) : MS → Except Er (List SM) → Prop
 | err {m : MS} {e : Er} : stepM L m = .error e → Out L m (.error e)
 | fin {m : MS} {l : List SM} : stepM L m = .ok (.inl l) → Out L m (.ok l)
 | go {m m' : MS} {r : Except Er (List SM)} : stepM L m = .ok (.inr m') → Out L m' r → Out L m r
/-! ### Levels -/
def isOps (kind : Nat) (ops : List Txt) (l : Nat) : Prop := ∀ t : Tk,opOf t kind ops = if levelT t = l then some t.text else none
theorem find_self {ops : List Txt} {x : Txt} : ops.find? (fun o => o == x) = if x ∈ ops then some x else none := by
 induction ops with
 | nil => simp
 | cons o r ih =>
  rw [List.find?_cons]
  by_cases h : o = x
  ·subst h; simp
  ·rw [beq_eq_false_iff_ne.2 h]
   simp only [ih,List.mem_cons,show ¬ x = o from fun e => h e.symm,false_or]
theorem lvlS_val (x : Txt) : lvlS x = 0 ∨ 4 ≤ lvlS x := by
 unfold lvlS
 split
 ·omega
 ·split
  ·omega
  ·split <;> omega
theorem ops_or : isOps 2 [tOr] 1 := fun t => by
 unfold opOf levelT
 rw [find_self]
 by_cases hk : t.kind = 2
 ·rw [if_pos hk,if_pos hk]
  by_cases h : t.text = tOr
  ·simp [h]
  ·have : ¬ t.text ∈ [tOr] := by simpa using h
   rw [if_neg this,if_neg h]
   split
   ·simp
   ·simp
 ·rw [if_neg hk,if_neg hk]
  have := lvlS_val t.text
  split
  ·rw [if_neg (by omega)]
  ·simp
theorem ops_and : isOps 2 [tAnd] 2 := fun t => by
 unfold opOf levelT
 rw [find_self]
 by_cases hk : t.kind = 2
 ·rw [if_pos hk,if_pos hk]
  by_cases h : t.text = tAnd
  ·simp [h,tAnd,tOr]
  ·have : ¬ t.text ∈ [tAnd] := by simpa using h
   rw [if_neg this,if_neg h]
   split
   ·simp
   ·simp
 ·rw [if_neg hk,if_neg hk]
  have := lvlS_val t.text
  split
  ·rw [if_neg (by omega)]
  ·simp
theorem kind_lev {t : Tk} {l : Nat} (h4 : 4 ≤ l) (h : levelT t = l) : t.kind = 4 := by
 unfold levelT at h
 split at h
 ·split at h
  ·omega
  ·split at h <;> omega
 ·split at h
  ·rename_i hk; exact hk
  ·omega
theorem ops_sign {ops : List Txt} {l : Nat} (h4 : 4 ≤ l) (hl : ∀ x,lvlS x = l ↔ x ∈ ops) : isOps 4 ops l := fun t => by
 unfold opOf
 rw [find_self]
 by_cases hk : t.kind = 4
 ·rw [if_pos hk]
  have : levelT t = lvlS t.text := by unfold levelT; rw [if_neg (by omega),if_pos hk]
  rw [this]
  by_cases h : t.text ∈ ops
  ·rw [if_pos h,if_pos ((hl _).2 h)]
  ·rw [if_neg h,if_neg (fun e => h ((hl _).1 e))]
 ·rw [if_neg hk,if_neg (fun e => hk (kind_lev h4 e))]
theorem ops_cmp : isOps 4 cmpOps 4 := ops_sign (by omega) fun x => by
 unfold lvlS cmpOps
 simp only [List.mem_cons,List.not_mem_nil,or_false]
 by_cases h : x = sEq ∨ x = sNe ∨ x = sLt ∨ x = sLe ∨ x = sGt ∨ x = sGe
 ·rw [if_pos h]; simp only [h,iff_true]
 ·rw [if_neg h]
  simp only [h,iff_false]
  split
  ·omega
  ·split <;> omega
theorem ops_sum : isOps 4 [sPlus,sMinus] 5 := ops_sign (by omega) fun x => by
 unfold lvlS
 simp only [List.mem_cons,List.not_mem_nil,or_false]
 by_cases h : x = sEq ∨ x = sNe ∨ x = sLt ∨ x = sLe ∨ x = sGt ∨ x = sGe
 ·rw [if_pos h]
  constructor
  ·intro h; omega
  ·rintro (rfl | rfl) <;> (revert h; decide)
 ·rw [if_neg h]
  by_cases h2 : x = sPlus ∨ x = sMinus
  ·rw [if_pos h2]; simp only [h2]
  ·rw [if_neg h2]
   simp only [h2,iff_false]
   split <;> omega
theorem ops_term : isOps 4 [sMul,sDiv,sMod] 6 := ops_sign (by omega) fun x => by
 unfold lvlS
 simp only [List.mem_cons,List.not_mem_nil,or_false]
 by_cases h : x = sEq ∨ x = sNe ∨ x = sLt ∨ x = sLe ∨ x = sGt ∨ x = sGe
 ·rw [if_pos h]
  constructor
  ·intro h; omega
  ·rintro (rfl | rfl | rfl) <;> (revert h; decide)
 ·rw [if_neg h]
  by_cases h2 : x = sPlus ∨ x = sMinus
  ·rw [if_pos h2]
   constructor
   ·intro h; omega
   ·rintro (rfl | rfl | rfl) <;> (revert h2; decide)
  ·rw [if_neg h2]
   by_cases h3 : x = sMul ∨ x = sDiv ∨ x = sMod
   ·rw [if_pos h3]; simp only [h3]
   ·rw [if_neg h3]; simp only [h3,iff_false]; omega
theorem levelT_le (t : Tk) : levelT t ≤ 6 ∧ levelT t ≠ 3 := by
 unfold levelT lvlS
 split
 ·split
  ·omega
  ·split <;> omega
 ·split
  ·split
   ·omega
   ·split
    ·omega
    ·split <;> omega
  ·omega
/-! ### What is ended -/
theorem ends_stop {k : Int} {σ : List OM} {ω : List SM} (h : topLv σ < k ∨ topLv σ < 0) : endsM k σ ω = (σ,ω) := by
 cases σ with
 | nil => rfl
 | cons o σ =>
  have h' : o.lv < k ∨ o.lv < 0 := h
  rw [endsM,if_pos h']
theorem ends_pop {k : Int} {o : OM} {σ : List OM} {ω : List SM} (h1 : k ≤ o.lv) (h2 : 0 ≤ o.lv) : endsM k (o :: σ) ω = endsM k σ (ω ++ [⟨o.op,arity o.op,0,[]⟩]) := by
 rw [endsM,if_neg (by omega)]
theorem back_ends : ∀ (σ : List OM) (ω : List SM),backM (endsM 0 σ ω).1 (endsM 0 σ ω).2 = backM σ ω
 | [],ω => rfl
 | o :: σ,ω => by
  by_cases h : o.lv < 0
  ·rw [show endsM 0 (o :: σ) ω = (o :: σ,ω) by rw [endsM,if_pos (.inl h)]]
  ·rw [ends_pop (by omega) (by omega),backM,if_pos (by omega)]
   exact back_ends σ _
theorem back_of_ends {σ σ' : List OM} {ω ω' : List SM} (h : endsM 0 σ' ω' = endsM 0 σ ω) : backM σ' ω' = backM σ ω := by
 rw [← back_ends σ',h,back_ends]
end Go.Proofs.YtmdmomccibpjbaaGreatDoor.E
namespace Go.Proofs.YtmdmomccibpjbaaGreatDoor.E
open Go Tr
set_option maxRecDepth 100000
set_option maxHeartbeats 2000000
/-! ### As the program writes it -/
def opLv (op : Txt) : Nat := if op = tOr then 1 else if op = tAnd then 2 else lvlS op
def opL (op : Txt) : Nat := if opLv op = 4 then 5 else opLv op
def opR (op : Txt) : Nat := if opLv op = 0 then 0 else opLv op + 1
def levelN : N → Nat
 | .cnd _ _ _ => 0
 | .bin op _ _ => opLv op
 | .un op _ => if op = tNot then 3 else 7
 | _ => 8
/-- A byte's digits, behind \x. -/
def hex2 (c : UInt8) : Txt := [92,120,hexL (c.toNat / 16),hexL (c.toNat % 16)]
def quo1 (c : UInt8) : Txt := if c = 34 ∨ c = 92 then [92,c] else if c = 10 then [92,110] else if c = 9 then [92,116] else if 32 ≤ c.toNat ∧ c.toNat ≤ 126 then [c] else hex2 c
def quoM (s : Txt) : Txt := 34 :: (s.flatMap quo1 ++ [34])
/-- In brackets, if what is wanted stands above. -/
def parT (lv want : Nat) (ts : List Txt) : List Txt := if lv < want then sLp :: (ts ++ [sRp]) else ts
mutual
def tks : N → List Txt
 | .num n => [Lib.itoa n]
 | .quo s => [quoM s]
 | .wrd w => [w]
 | .un op a => op :: parT (levelN a) (if op = tNot then 3 else 7) (tks a)
 | .bin op a b => parT (levelN a) (opL op) (tks a) ++ op :: parT (levelN b) (opR op) (tks b)
 | .cnd c a b => tIf :: (tks c ++ tThen :: (tks a ++ tElse :: tks b))
 | .lst l => sLb :: (tksL true l ++ [sRb])
 | .cal i l => nameB i :: sLp :: (tksL true l ++ [sRp])
/-- With commas between. -/
def tksL : Bool → List N → List Txt
 | _,[] => []
 | first,x :: l => (if first = true then [] else [sCom]) ++ (tks x ++ tksL false l)
end
def wordyB : Txt → Bool
 | [] => false
 | c :: _ => isL c
def joinF : Bool → List Txt → Txt
 | _,[] => []
 | p,t :: r => (if (p && wordyB t) = true then [32] else []) ++ (t ++ joinF (wordyB t) r)
/-- The text of tokens. -/
def joinB (l : List Txt) : Txt := joinF false l
/-! ### As the document writes it -/
def endL (a : Txt) : Bool := match a.getLast? with
 | some c => isL c
 | none => false
def gluedB (a b : Txt) : Txt := if (endL a && wordyB b) = true then a ++ 32 :: b else a ++ b
abbrev PM := Txt × Nat
def fromM (p : PM) (need : Nat) : Txt := if p.2 < need then 40 :: (p.1 ++ [41]) else p.1
def rowF : Bool → List PM → Txt
 | _,[] => []
 | first,p :: l => (if first = true then [] else [44]) ++ (p.1 ++ rowF false l)
def pieceM (s : SM) (a : List PM) : PM :=
 if 0 < opLv s.op ∧ a.length = 2 then (gluedB (gluedB (fromM (a.getD 0 ([],0)) (opL s.op)) s.op) (fromM (a.getD 1 ([],0)) (opR s.op)),opLv s.op)
 else if s.op = nNeg ∧ a.length = 1 then (45 :: fromM (a.getD 0 ([],0)) 7,7)
 else if s.op = tNot ∧ a.length = 1 then (gluedB tNot (fromM (a.getD 0 ([],0)) 3),3)
 else if s.op = tIf ∧ a.length = 3 then (gluedB (gluedB (gluedB (gluedB (gluedB tIf (a.getD 0 ([],0)).1) tThen) (a.getD 1 ([],0)).1) tElse) (a.getD 2 ([],0)).1,0)
 else if s.op = nList then (91 :: (rowF true a ++ [93]),8)
 else if s.op = nNum then (Lib.itoa s.num,8)
 else if s.op = nText then (quoM s.text,8)
 else if a.length = 0 then (s.op,8)
 else (s.op ++ 40 :: (rowF true a ++ [41]),8)
def runM : List SM → List PM → Option (List PM)
 | [],st => some st
 | s :: r,st => if st.length < s.n then none else runM r (st.take (st.length - s.n) ++ [pieceM s (st.drop (st.length - s.n))])
def writtenM (l : List SM) : Txt := match runM l [] with
 | some [p] => p.1
 | _ => []
mutual
def pcsT : N → Txt
 | .num n => Lib.itoa n
 | .quo s => quoM s
 | .wrd w => w
 | .un op a => if op = tNot then gluedB tNot (fromM (pcsT a,levelN a) 3) else 45 :: fromM (pcsT a,levelN a) 7
 | .bin op a b => gluedB (gluedB (fromM (pcsT a,levelN a) (opL op)) op) (fromM (pcsT b,levelN b) (opR op))
 | .cnd c a b => gluedB (gluedB (gluedB (gluedB (gluedB tIf (pcsT c)) tThen) (pcsT a)) tElse) (pcsT b)
 | .lst l => 91 :: (rowT true l ++ [93])
 | .cal i l => nameB i ++ 40 :: (rowT true l ++ [41])
def rowT : Bool → List N → Txt
 | _,[] => []
 | first,x :: l => (if first = true then [] else [44]) ++ (pcsT x ++ rowT false l)
end
/-! ### What the parser makes -/
def binOps : List Txt := tOr :: tAnd :: (cmpOps ++ [sPlus,sMinus,sMul,sDiv,sMod])
mutual
/-- A tree as the parser makes it. -/
def WfN : N → Prop
 | .num n => 0 ≤ n ∧ n ≤ 9223372036854775807
 | .quo s => s.length ≤ 24
 | .wrd w => w ∈ plainM
 | .un op a => (op = tNot ∨ op = sMinus) ∧ WfN a
 | .bin op a b => op ∈ binOps ∧ WfN a ∧ WfN b
 | .cnd c a b => WfN c ∧ WfN a ∧ WfN b
 | .lst l => WfL l
 | .cal i l => i < 14 ∧ l.length = takesB i ∧ WfL l
def WfL : List N → Prop
 | [] => True
 | x :: l => WfN x ∧ WfL l
end
mutual
/-- How many places it has. -/
def szN : N → Nat
 | .num _ => 1
 | .quo _ => 1
 | .wrd _ => 1
 | .un _ a => szN a + 1
 | .bin _ a b => szN a + szN b + 1
 | .cnd c a b => szN c + szN a + szN b + 1
 | .lst l => szL l + 1
 | .cal _ l => szL l + 1
def szL : List N → Nat
 | [] => 0
 | x :: l => szN x + szL l
end
theorem WfL_app : ∀ (l m : List N),WfL (l ++ m) ↔ WfL l ∧ WfL m
 | [],m => by simp [WfL]
 | x :: l,m => by simp [WfL,WfL_app l m,and_assoc]
theorem szL_app : ∀ (l m : List N),szL (l ++ m) = szL l + szL m
 | [],m => by simp [szL]
 | x :: l,m => by simp only [List.cons_append,szL,szL_app l m]; omega
end Go.Proofs.YtmdmomccibpjbaaGreatDoor.E
namespace Go.Proofs.YtmdmomccibpjbaaGreatDoor.E
open Go Tr
set_option maxRecDepth 100000
set_option maxHeartbeats 2000000
/-- A token: it begins with a letter just where it ends with one. -/
def TkG (t : Txt) : Prop := t ≠ [] ∧ endL t = wordyB t
def lastW : Bool → List Txt → Bool
 | p,[] => p
 | _,t :: r => lastW (wordyB t) r
def begW : List Txt → Bool
 | [] => false
 | t :: _ => wordyB t
theorem endL_app {a b : Txt} (hb : b ≠ []) : endL (a ++ b) = endL b := by
 unfold endL
 rw [List.getLast?_append]
 cases h : b.getLast? with
 | none => exact absurd (List.getLast?_eq_none_iff.1 h) hb
 | some c => rfl
theorem wordy_app {a b : Txt} (ha : a ≠ []) : wordyB (a ++ b) = wordyB a := by
 cases a with
 | nil => exact absurd rfl ha
 | cons c r => rfl
theorem joinF_app : ∀ (p : Bool) (l m : List Txt),joinF p (l ++ m) = joinF p l ++ joinF (lastW p l) m
 | p,[],m => rfl
 | p,t :: r,m => by
  simp only [List.cons_append,joinF,lastW,joinF_app (wordyB t) r m,List.append_assoc]
theorem joinF_true (l : List Txt) : joinF true l = (if begW l = true then [32] else []) ++ joinF false l := by
 cases l with
 | nil => rfl
 | cons t r => cases hw : wordyB t <;> simp [joinF,begW,hw]
theorem join_end : ∀ (l : List Txt) (p : Bool),(∀ t ∈ l,TkG t) → l ≠ [] → joinF p l ≠ [] ∧ endL (joinF p l) = lastW p l
 | [],_,_,h => absurd rfl h
 | [t],p,hg,_ => by
  have h := hg t (.head _)
  have e : joinF p [t] = (if (p && wordyB t) = true then [32] else []) ++ t := by simp [joinF]
  rw [e]
  exact ⟨fun h' => h.1 (List.append_eq_nil_iff.1 h').2,by rw [endL_app h.1]; exact h.2⟩
 | t :: u :: r,p,hg,_ => by
  have ih := join_end (u :: r) (wordyB t) (fun x hx => hg x (.tail _ hx)) (by simp)
  have e : joinF p (t :: u :: r) = ((if (p && wordyB t) = true then [32] else []) ++ t) ++ joinF (wordyB t) (u :: r) := by simp [joinF]
  rw [e]
  exact ⟨fun h' => ih.1 (List.append_eq_nil_iff.1 h').2,by rw [endL_app ih.1]; exact ih.2⟩
theorem join_end' (l : List Txt) (hg : ∀ t ∈ l,TkG t) : endL (joinB l) = lastW false l := by
 cases l with
 | nil => rfl
 | cons t r => exact (join_end _ false hg (by simp)).2
theorem join_beg (l : List Txt) (hg : ∀ t ∈ l,TkG t) : wordyB (joinB l) = begW l := by
 cases l with
 | nil => rfl
 | cons t r =>
  have h := hg t (.head _)
  show wordyB ((if (false && wordyB t) = true then [32] else []) ++ (t ++ joinF (wordyB t) r)) = wordyB t
  rw [Bool.false_and,if_neg (by decide),List.nil_append,wordy_app h.1]
/-- Two rows of tokens, one behind the other. -/
theorem join_glue (l m : List Txt) (hl : ∀ t ∈ l,TkG t) (hm : ∀ t ∈ m,TkG t) : joinB (l ++ m) = gluedB (joinB l) (joinB m) := by
 unfold gluedB
 rw [join_end' l hl,join_beg m hm]
 show joinF false (l ++ m) = _
 rw [joinF_app]
 cases h : lastW false l with
 | false => rw [Bool.false_and,if_neg (by decide)]; rfl
 | true =>
  rw [joinF_true,Bool.true_and]
  cases hb : begW m with
  | false => rw [if_neg (by decide),if_neg (by decide)]; rfl
  | true => rw [if_pos rfl,if_pos rfl]; rfl
theorem join_one (t : Txt) : joinB [t] = t := by simp [joinB,joinF]
theorem glue_l {a b : Txt} (h : endL a = false) : gluedB a b = a ++ b := by unfold gluedB; rw [h,Bool.false_and,if_neg (by decide)]
theorem glue_r {a b : Txt} (h : wordyB b = false) : gluedB a b = a ++ b := by unfold gluedB; rw [h,Bool.and_false,if_neg (by decide)]
/-! ### Tokens of a tree -/
theorem dig_last : ∀ (l : Txt),(∀ c ∈ l,isL c = false) → endL l = false ∧ wordyB l = false := fun l h => by
 constructor
 ·unfold endL
  cases hl : l.getLast? with
  | none => rfl
  | some c => exact h c (List.mem_of_getLast? hl)
 ·cases l with
  | nil => rfl
  | cons c r => exact h c (.head _)
theorem itoa_dig (n : Int) : ∀ c ∈ Lib.itoa n,c = 45 ∨ (48 ≤ c.toNat ∧ c.toNat ≤ 57) := by
 intro c hc
 have dd : ∀ (u : Nat),∀ c ∈ Lib.decDigits u,48 ≤ c.toNat ∧ c.toNat ≤ 57 := fun u c hc => V.dec_digit _ _ (Nat.lt_succ_self _) c hc
 unfold Lib.itoa at hc
 split at hc
 ·rcases List.mem_cons.1 hc with rfl | hc
  ·exact .inl rfl
  ·exact .inr (dd _ c hc)
 ·exact .inr (dd _ c hc)
theorem itoa_nl (n : Int) : ∀ c ∈ Lib.itoa n,isL c = false := fun c hc => by
 rcases itoa_dig n c hc with rfl | h
 ·rfl
 ·unfold isL
  rw [Bool.and_eq_false_iff]
  exact .inl (decide_eq_false (by omega))
theorem dec_nn (u : Nat) : Lib.decDigits u ≠ [] := by
 rw [Lib.decDigits]
 split
 ·simp
 ·simp
theorem itoa_nn (n : Int) : Lib.itoa n ≠ [] := by
 unfold Lib.itoa
 split
 ·simp
 ·exact dec_nn _
theorem good_itoa (n : Int) : TkG (Lib.itoa n) := by
 obtain ⟨h1,h2⟩ := dig_last _ (itoa_nl n)
 exact ⟨itoa_nn n,by rw [h1,h2]⟩
theorem good_quo (s : Txt) : TkG (quoM s) := by
 refine ⟨by simp [quoM],?_⟩
 have e : quoM s = (34 :: s.flatMap quo1) ++ [34] := by simp [quoM]
 rw [e,endL_app (by simp)]
 rfl
theorem good_plain : ∀ w ∈ plainM,TkG w := by
 intro w hw
 have : ∀ w ∈ plainM,w ≠ [] ∧ endL w = wordyB w := by decide
 exact this w hw
theorem good_ops : ∀ w ∈ tIf :: tThen :: tElse :: tNot :: sLp :: sRp :: sLb :: sRb :: sCom :: binOps,TkG w := by
 intro w hw
 have : ∀ w ∈ tIf :: tThen :: tElse :: tNot :: sLp :: sRp :: sLb :: sRb :: sCom :: binOps,w ≠ [] ∧ endL w = wordyB w := by decide
 exact this w hw
theorem good_name : ∀ i < 14,TkG (nameB i) := by
 have : ∀ i < 14,nameB i ≠ [] ∧ endL (nameB i) = wordyB (nameB i) := by decide
 exact this
theorem par_good {lv want : Nat} {ts : List Txt} (h : ∀ t ∈ ts,TkG t) : ∀ t ∈ parT lv want ts,TkG t := by
 intro t ht
 unfold parT at ht
 split at ht
 ·rcases List.mem_cons.1 ht with rfl | ht
  ·exact good_ops _ (by decide)
  ·rcases List.mem_append.1 ht with ht | ht
   ·exact h t ht
   ·rw [List.mem_singleton.1 ht]
    exact good_ops _ (by decide)
 ·exact h t ht
theorem un_op {op : Txt} (h : op = tNot ∨ op = sMinus) : TkG op := by
 rcases h with rfl | rfl
 ·exact good_ops _ (by decide)
 ·exact good_ops _ (by decide)
mutual
theorem tks_good : ∀ n,WfN n → ∀ t ∈ tks n,TkG t
 | .num n,_,t,ht => by
  simp only [tks,List.mem_singleton] at ht
  rw [ht]; exact good_itoa n
 | .quo s,_,t,ht => by
  simp only [tks,List.mem_singleton] at ht
  rw [ht]; exact good_quo s
 | .wrd w,h,t,ht => by
  simp only [tks,List.mem_singleton] at ht
  rw [ht]; exact good_plain w h
 | .un op a,h,t,ht => by
  simp only [tks,List.mem_cons] at ht
  rcases ht with rfl | ht
  ·exact un_op h.1
  ·exact par_good (tks_good a h.2) t ht
 | .bin op a b,h,t,ht => by
  simp only [tks,List.mem_append,List.mem_cons] at ht
  rcases ht with ht | rfl | ht
  ·exact par_good (tks_good a h.2.1) t ht
  ·exact good_ops _ (by simp only [List.mem_cons]; exact .inr (.inr (.inr (.inr (.inr (.inr (.inr (.inr (.inr h.1))))))))) 
  ·exact par_good (tks_good b h.2.2) t ht
 | .cnd c a b,h,t,ht => by
  simp only [tks,List.mem_append,List.mem_cons] at ht
  rcases ht with rfl | ht | rfl | ht | rfl | ht
  ·exact good_ops _ (by decide)
  ·exact tks_good c h.1 t ht
  ·exact good_ops _ (by decide)
  ·exact tks_good a h.2.1 t ht
  ·exact good_ops _ (by decide)
  ·exact tks_good b h.2.2 t ht
 | .lst l,h,t,ht => by
  simp only [tks,List.mem_append,List.mem_cons,List.not_mem_nil,or_false] at ht
  rcases ht with rfl | ht | rfl
  ·exact good_ops _ (by decide)
  ·exact tksL_good true l h t ht
  ·exact good_ops _ (by decide)
 | .cal i l,h,t,ht => by
  simp only [tks,List.mem_append,List.mem_cons,List.not_mem_nil,or_false] at ht
  rcases ht with rfl | rfl | ht | rfl
  ·exact good_name i h.1
  ·exact good_ops _ (by decide)
  ·exact tksL_good true l h.2.2 t ht
  ·exact good_ops _ (by decide)
theorem tksL_good : ∀ f l,WfL l → ∀ t ∈ tksL f l,TkG t
 | _,[],_,t,ht => by simp [tksL] at ht
 | f,x :: l,h,t,ht => by
  simp only [tksL,List.mem_append] at ht
  rcases ht with ht | ht | ht
  ·cases f
   ·rw [if_neg (by decide),List.mem_singleton] at ht
    rw [ht]; exact good_ops _ (by decide)
   ·rw [if_pos rfl] at ht
    cases ht
  ·exact tks_good x h.1 t ht
  ·exact tksL_good false l h.2 t ht
end
theorem join_par {lv want : Nat} {ts : List Txt} (h : ∀ t ∈ ts,TkG t) : joinB (parT lv want ts) = fromM (joinB ts,lv) want := by
 unfold parT fromM
 split
 ·have e : sLp :: (ts ++ [sRp]) = [sLp] ++ (ts ++ [sRp]) := rfl
  have h2 : ∀ t ∈ ts ++ [sRp],TkG t := fun t ht => by
   rcases List.mem_append.1 ht with ht | ht
   ·exact h t ht
   ·rw [List.mem_singleton.1 ht]; exact good_ops _ (by decide)
  rw [e,join_glue _ _ (fun t ht => by rw [List.mem_singleton.1 ht]; exact good_ops _ (by decide)) h2,join_glue _ _ h (fun t ht => by rw [List.mem_singleton.1 ht]; exact good_ops _ (by decide)),join_one,join_one,glue_l (by rfl),glue_r (by rfl)]
  rfl
 ·rfl
theorem row_wordy : ∀ l,wordyB (rowT false l) = false
 | [] => rfl
 | x :: l => rfl
mutual
theorem join_piece : ∀ n,WfN n → joinB (tks n) = pcsT n
 | .num n,_ => by simp only [tks,pcsT,join_one]
 | .quo s,_ => by simp only [tks,pcsT,join_one]
 | .wrd w,_ => by simp only [tks,pcsT,join_one]
 | .un op a,h => by
  have hg := par_good (lv := levelN a) (want := if op = tNot then 3 else 7) (tks_good a h.2)
  simp only [tks,pcsT]
  rw [show op :: parT (levelN a) (if op = tNot then 3 else 7) (tks a) = [op] ++ parT (levelN a) (if op = tNot then 3 else 7) (tks a) from rfl,
   join_glue _ _ (fun t ht => by rw [List.mem_singleton.1 ht]; exact un_op h.1) hg,join_one,join_par (tks_good a h.2),join_piece a h.2]
  rcases h.1 with rfl | rfl
  ·rfl
  ·rw [if_neg (by decide),if_neg (by decide),glue_l (by rfl)]
   rfl
 | .bin op a b,h => by
  have ga := par_good (lv := levelN a) (want := opL op) (tks_good a h.2.1)
  have gb := par_good (lv := levelN b) (want := opR op) (tks_good b h.2.2)
  have go : TkG op := good_ops _ (by simp only [List.mem_cons]; exact .inr (.inr (.inr (.inr (.inr (.inr (.inr (.inr (.inr h.1)))))))))
  simp only [tks,pcsT]
  rw [show parT (levelN a) (opL op) (tks a) ++ op :: parT (levelN b) (opR op) (tks b) = (parT (levelN a) (opL op) (tks a) ++ [op]) ++ parT (levelN b) (opR op) (tks b) by simp,
   join_glue _ _ (fun t ht => by
    rcases List.mem_append.1 ht with ht | ht
    ·exact ga t ht
    ·rw [List.mem_singleton.1 ht]; exact go) gb,
   join_glue _ _ ga (fun t ht => by rw [List.mem_singleton.1 ht]; exact go),join_one,join_par (tks_good a h.2.1),join_par (tks_good b h.2.2),join_piece a h.2.1,join_piece b h.2.2]
 | .cnd c a b,h => by
  have gc := tks_good c h.1
  have ga := tks_good a h.2.1
  have gb := tks_good b h.2.2
  have g1 : ∀ x ∈ [tIf,tThen,tElse],∀ t ∈ [x],TkG t := fun x hx t ht => by
   rw [List.mem_singleton.1 ht]
   have : ∀ x ∈ [tIf,tThen,tElse],x ∈ tIf :: tThen :: tElse :: tNot :: sLp :: sRp :: sLb :: sRb :: sCom :: binOps := by decide
   exact good_ops _ (this x hx)
  have app : ∀ {l m : List Txt},(∀ t ∈ l,TkG t) → (∀ t ∈ m,TkG t) → ∀ t ∈ l ++ m,TkG t := fun hl hm t ht => by
   rcases List.mem_append.1 ht with ht | ht
   ·exact hl t ht
   ·exact hm t ht
  have h1 := g1 tIf (by decide)
  have h2 := g1 tThen (by decide)
  have h3 := g1 tElse (by decide)
  simp only [tks,pcsT]
  rw [show tIf :: (tks c ++ tThen :: (tks a ++ tElse :: tks b)) = (((([tIf] ++ tks c) ++ [tThen]) ++ tks a) ++ [tElse]) ++ tks b by simp,
   join_glue _ _ (app (app (app (app h1 gc) h2) ga) h3) gb,join_glue _ _ (app (app (app h1 gc) h2) ga) h3,join_glue _ _ (app (app h1 gc) h2) ga,join_glue _ _ (app h1 gc) h2,join_glue _ _ h1 gc,
   join_one,join_one,join_one,join_piece a h.2.1,join_piece b h.2.2,join_piece c h.1]
 | .lst l,h => by
  simp only [tks,pcsT]
  have hs : ∀ x ∈ [sLb,sRb],∀ t ∈ [x],TkG t := fun x hx t ht => by
   rw [List.mem_singleton.1 ht]
   have : ∀ x ∈ [sLb,sRb],x ∈ tIf :: tThen :: tElse :: tNot :: sLp :: sRp :: sLb :: sRb :: sCom :: binOps := by decide
   exact good_ops _ (this x hx)
  have gl := tksL_good true l h
  rw [show sLb :: (tksL true l ++ [sRb]) = [sLb] ++ (tksL true l ++ [sRb]) from rfl,join_glue _ _ (hs sLb (by decide)) (fun t ht => by
    rcases List.mem_append.1 ht with ht | ht
    ·exact gl t ht
    ·exact hs sRb (by decide) t ht),join_glue _ _ gl (hs sRb (by decide)),join_one,join_one,joinL_piece true l h,glue_l (by rfl),glue_r (by rfl)]
  rfl
 | .cal i l,h => by
  simp only [tks,pcsT]
  have hs : ∀ x ∈ [sLp,sRp],∀ t ∈ [x],TkG t := fun x hx t ht => by
   rw [List.mem_singleton.1 ht]
   have : ∀ x ∈ [sLp,sRp],x ∈ tIf :: tThen :: tElse :: tNot :: sLp :: sRp :: sLb :: sRb :: sCom :: binOps := by decide
   exact good_ops _ (this x hx)
  have gl := tksL_good true l h.2.2
  have g2 : ∀ t ∈ tksL true l ++ [sRp],TkG t := fun t ht => by
    rcases List.mem_append.1 ht with ht | ht
    ·exact gl t ht
    ·exact hs sRp (by decide) t ht
  rw [show nameB i :: sLp :: (tksL true l ++ [sRp]) = [nameB i] ++ ([sLp] ++ (tksL true l ++ [sRp])) from rfl,join_glue _ _ (fun t ht => by rw [List.mem_singleton.1 ht]; exact good_name i h.1) (fun t ht => by
    rcases List.mem_append.1 ht with ht | ht
    ·exact hs sLp (by decide) t ht
    ·exact g2 t ht),join_glue _ _ (hs sLp (by decide)) g2,join_glue _ _ gl (hs sRp (by decide)),join_one,join_one,join_one,joinL_piece true l h.2.2,
   glue_r (a := rowT true l) (by rfl),glue_l (a := sLp) (by rfl),glue_r (by rfl)]
  rfl
theorem joinL_piece : ∀ f l,WfL l → joinB (tksL f l) = rowT f l
 | _,[],_ => rfl
 | f,x :: l,h => by
  have gx := tks_good x h.1
  have gl := tksL_good false l h.2
  have g2 : ∀ t ∈ tks x ++ tksL false l,TkG t := fun t ht => by
    rcases List.mem_append.1 ht with ht | ht
    ·exact gx t ht
    ·exact gl t ht
  have e : joinB (tks x ++ tksL false l) = pcsT x ++ rowT false l := by
   rw [join_glue _ _ gx gl,join_piece x h.1,joinL_piece false l h.2,glue_r (row_wordy l)]
  simp only [tksL,rowT]
  cases f
  ·rw [if_neg (by decide),if_neg (by decide),join_glue _ _ (fun t ht => by rw [List.mem_singleton.1 ht]; exact good_ops _ (by decide)) g2,join_one,glue_l (by rfl),e]
   rfl
  ·rw [if_pos rfl,if_pos rfl]
   exact e
end
/-! ### Steps -/
abbrev pcN (n : N) : PM := (pcsT n,levelN n)
theorem run_step (s : SM) (r : List SM) (st a : List PM) (h : a.length = s.n) : runM (s :: r) (st ++ a) = runM r (st ++ [pieceM s a]) := by
 rw [runM,if_neg (by rw [List.length_append]; omega),List.length_append,show st.length + a.length - s.n = st.length by omega,List.take_left,List.drop_left]
theorem rowF_map : ∀ f l,rowF f (l.map pcN) = rowT f l
 | _,[] => rfl
 | f,x :: l => by simp only [List.map_cons,rowF,rowT,rowF_map false l]
theorem bin_lv : ∀ op ∈ binOps,0 < opLv op := by decide
theorem name_fresh : ∀ i < 14,opLv (nameB i) = 0 ∧ nameB i ≠ nNeg ∧ nameB i ≠ tNot ∧ nameB i ≠ tIf ∧ nameB i ≠ nList ∧ nameB i ≠ nNum ∧ nameB i ≠ nText ∧ takesB i ≠ 0 := by decide
theorem plain_fresh : ∀ w ∈ plainM,opLv w = 0 ∧ w ≠ nNeg ∧ w ≠ tNot ∧ w ≠ tIf ∧ w ≠ nList ∧ w ≠ nNum ∧ w ≠ nText := by decide
theorem list_fresh : ¬ 0 < opLv nList ∧ ¬ nList = nNeg ∧ ¬ nList = tNot ∧ ¬ nList = tIf := by decide
mutual
theorem run_flat : ∀ n,WfN n → ∀ (r : List SM) (st : List PM),runM (flat n ++ r) st = runM r (st ++ [pcN n])
 | .num n,_,r,st => by
  have := run_step ⟨nNum,0,n,[]⟩ r st [] rfl
  rw [List.append_nil] at this
  simp only [flat,List.cons_append,List.nil_append]
  rw [this]
  rfl
 | .quo s,_,r,st => by
  have := run_step ⟨nText,0,0,s⟩ r st [] rfl
  rw [List.append_nil] at this
  simp only [flat,List.cons_append,List.nil_append]
  rw [this]
  rfl
 | .wrd w,h,r,st => by
  have := run_step ⟨w,0,0,[]⟩ r st [] rfl
  rw [List.append_nil] at this
  simp only [flat,List.cons_append,List.nil_append]
  rw [this]
  obtain ⟨h0,h1,h2,h3,h4,h5,h6⟩ := plain_fresh w h
  have e : pieceM ⟨w,0,0,[]⟩ [] = (w,8) := by
   unfold pieceM
   simp [h0,h1,h2,h3,h4,h5,h6]
  rw [e]
  rfl
 | .un op a,h,r,st => by
  simp only [flat,List.append_assoc,List.cons_append,List.nil_append]
  rw [run_flat a h.2,run_step _ r st [pcN a] rfl]
  rcases h.1 with rfl | rfl
  ·rfl
  ·rfl
 | .bin op a b,h,r,st => by
  simp only [flat,List.append_assoc,List.cons_append,List.nil_append]
  rw [run_flat a h.2.1,run_flat b h.2.2,List.append_assoc,run_step _ r st ([pcN a] ++ [pcN b]) rfl]
  have e : pieceM ⟨op,2,0,[]⟩ ([pcN a] ++ [pcN b]) = pcN (.bin op a b) := by
   unfold pieceM
   rw [if_pos ⟨bin_lv op h.1,rfl⟩]
   simp only [pcN,pcsT,levelN]
   rfl
  rw [e]
 | .cnd c a b,h,r,st => by
  simp only [flat,List.append_assoc,List.cons_append,List.nil_append]
  rw [run_flat c h.1,run_flat a h.2.1,run_flat b h.2.2,List.append_assoc,List.append_assoc,run_step _ r st ([pcN c] ++ ([pcN a] ++ [pcN b])) rfl]
  rfl
 | .lst l,h,r,st => by
  simp only [flat,List.append_assoc,List.cons_append,List.nil_append]
  rw [run_flats l h,run_step _ r st (l.map pcN) (by simp)]
  have e : pieceM ⟨nList,l.length,0,[]⟩ (l.map pcN) = pcN (.lst l) := by
   unfold pieceM
   rw [if_neg (fun h => list_fresh.1 h.1),if_neg (fun h => list_fresh.2.1 h.1),if_neg (fun h => list_fresh.2.2.1 h.1),if_neg (fun h => list_fresh.2.2.2 h.1),if_pos rfl,rowF_map]
   simp only [pcN,pcsT,levelN]
  rw [e]
 | .cal i l,h,r,st => by
  simp only [flat,List.append_assoc,List.cons_append,List.nil_append]
  rw [run_flats l h.2.2,run_step _ r st (l.map pcN) (by simp)]
  obtain ⟨h0,h1,h2,h3,h4,h5,h6,h7⟩ := name_fresh i h.1
  have e : pieceM ⟨nameB i,l.length,0,[]⟩ (l.map pcN) = pcN (.cal i l) := by
   unfold pieceM
   rw [if_neg (fun h => by have := h.1; simp only at this; omega),if_neg (fun h => h1 h.1),if_neg (fun h => h2 h.1),if_neg (fun h => h3 h.1),if_neg (fun h => h4 h),if_neg (fun h => h5 h),if_neg (fun h => h6 h),if_neg (by rw [List.length_map,h.2.1]; exact h7),rowF_map]
   simp only [pcN,pcsT,levelN]
  rw [e]
theorem run_flats : ∀ l,WfL l → ∀ (r : List SM) (st : List PM),runM (flats l ++ r) st = runM r (st ++ l.map pcN)
 | [],_,r,st => by simp [flats]
 | x :: l,h,r,st => by
  simp only [flats,List.append_assoc]
  rw [run_flat x h.1,run_flats l h.2]
  simp
end
/-- The one form, both ways. -/
theorem written_flat (n : N) (h : WfN n) : writtenM (flat n) = joinB (tks n) := by
 have := run_flat n h [] []
 rw [List.append_nil] at this
 unfold writtenM
 rw [this,join_piece n h]
 rfl
end Go.Proofs.YtmdmomccibpjbaaGreatDoor.E
