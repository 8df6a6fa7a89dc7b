/- The parser of expressions as a function: its tokens, its levels, its trees. Functions with one deferred closure: the tree's leaves tell the closure, its arguments and the slots. The decoder: what next, int and text read of the bytes. The reader: peek, blanks, want, hex, escape. -/
import Derived.Test.YtmdmomccibpjbaaGreatDoorRdx
import Derived.Test.YtmdmomccibpjbaaGreatDoorTrS
import Derived.Defers
import Derived.Recover
namespace Go.Proofs.YtmdmomccibpjbaaGreatDoor.E
open Go Tr
set_option maxRecDepth 100000
abbrev Txt := List UInt8
/-- A fault's number and place; (0, 0): the reckoning was not let go on. -/
abbrev Er := Nat × Nat
/-- A tree. -/
inductive N where
 | num (n : Int)
 | quo (s : Txt)
 | wrd (w : Txt)
 | un (op : Txt) (a : N)
 | bin (op : Txt) (a b : N)
 | cnd (c a b : N)
 | lst (l : List N)
 | cal (f : Nat) (l : List N)
/-- A token: its kind (0 the end, 1 a number, 2 a word, 3 a text, 4 a sign), its place, what it is. -/
structure Tk where
 kind : Nat
 at_ : Nat
 text : Txt
 num : Nat
/-- What is left of the text behind the token that was looked at; that token; how many brackets are open. -/
structure PS where
 l : Txt
 tok : Option Tk
 op : Nat
abbrev R (α : Type) := Except Er (α × PS)
def isD (c : UInt8) : Bool := decide (48 ≤ c.toNat) && decide (c.toNat ≤ 57)
def isL (c : UInt8) : Bool := decide (97 ≤ c.toNat) && decide (c.toNat ≤ 122)
def skB : Txt → Txt
 | [] => []
 | c :: r => if c = 32 then skB r else c :: r
def numB : Nat → Txt → Option (Nat × Txt)
 | n,[] => some (n,[])
 | n,c :: r => if isD c = true then (if (9223372036854775807 - (c.toNat - 48)) / 10 < n then none else numB (10 * n + (c.toNat - 48)) r) else some (n,c :: r)
/-- How many bytes behind a quote belong to the text; odd: is the number of backslashes that stand here odd? -/
def cloB : Bool → Txt → Nat
 | _,[] => 0
 | odd,c :: r => if c = 34 ∧ odd = false then 1 else 1 + cloB (decide (c = 92) && !odd) r
def quoB (l : Txt) : Option (Txt × Txt) :=
 let n := 1 + cloB false l.tail
 if (l.take n).any (fun c => decide (c.toNat < 32) || decide (126 < c.toNat)) = true then none
 else match V.parseX (l.take n) with
  | .ok (x,_) => some (x.text.data.toList,l.drop n)
  | .error _ => none
def tKey : Txt := [107,101,121]
def tVal : Txt := [118,97,108]
def tAcc : Txt := [97,99,99]
def tHops : Txt := [104,111,112,115]
def tNone : Txt := [110,111,110,101]
def tIf : Txt := [105,102]
def tThen : Txt := [116,104,101,110]
def tElse : Txt := [101,108,115,101]
def tAnd : Txt := [97,110,100]
def tOr : Txt := [111,114]
def tNot : Txt := [110,111,116]
def plainM : List Txt := [tKey,tVal,tAcc,tHops,tNone]
def wordsM : List Txt := [tKey,tVal,tAcc,tHops,tNone,tIf,tThen,tElse,tAnd,tOr,tNot]
/-- The calls: names, how many values they take. -/
def callsM : List (Txt × Nat) := [([108,101,110],1),([107,105,110,100],1),([105,110,116],1),([116,101,120,116],1),([115,117,109],1),([115,111,114,116],1),([114,101,118],1),
 ([97,116],2),([116,97,107,101],2),([100,114,111,112],2),([109,105,110],2),([109,97,120],2),([104,97,115],2),([112,117,116],3)]
def findB (w : Txt) : Option Nat := callsM.findIdx? (fun p => p.1 == w)
def takesB (i : Nat) : Nat := (callsM[i]?).elim 0 (·.2)
def nameB (i : Nat) : Txt := (callsM[i]?).elim [] (·.1)
def sLe : Txt := [60,61]
def sGe : Txt := [62,61]
def sEq : Txt := [61,61]
def sNe : Txt := [33,61]
def sPlus : Txt := [43]
def sMinus : Txt := [45]
def sMul : Txt := [42]
def sDiv : Txt := [47]
def sMod : Txt := [37]
def sLp : Txt := [40]
def sRp : Txt := [41]
def sLb : Txt := [91]
def sRb : Txt := [93]
def sCom : Txt := [44]
def sLt : Txt := [60]
def sGt : Txt := [62]
def signsM : List Txt := [sLe,sGe,sEq,sNe,sPlus,sMinus,sMul,sDiv,sMod,sLp,sRp,sLb,sRb,sCom,sLt,sGt]
def signB (l : Txt) : Option Txt := signsM.find? (fun s => s.isPrefixOf l)
/-- The token that begins behind blanks; L: the text's length. -/
def lexB (L : Nat) (l0 : Txt) : Except Er (Tk × Txt) :=
 match skB l0 with
 | [] => .ok (⟨0,L,[],0⟩,[])
 | c :: r =>
  if isD c = true then match numB 0 (c :: r) with
   | none => .error (32,L - (c :: r).length)
   | some (n,r') => .ok (⟨1,L - (c :: r).length,[],n⟩,r')
  else if isL c = true then
   (if wordsM.contains ((c :: r).takeWhile isL) = true ∨ (findB ((c :: r).takeWhile isL)).isSome = true then .ok (⟨2,L - (c :: r).length,(c :: r).takeWhile isL,0⟩,(c :: r).dropWhile isL)
   else .error (34,L - (c :: r).length))
  else if c = 34 then match quoB (c :: r) with
   | none => .error (33,L - (c :: r).length)
   | some (t,r') => .ok (⟨3,L - (c :: r).length,t,0⟩,r')
  else match signB (c :: r) with
   | some s => .ok (⟨4,L - (c :: r).length,s,0⟩,(c :: r).drop s.length)
   | none => .error (31,L - (c :: r).length)
section
variable (L : Nat)
def peekB (st : PS) : R Tk := match st.tok with
 | some t => .ok (t,st)
 | none => match lexB L st.l with
  | .error e => .error e
  | .ok (t,r) => .ok (t,⟨r,some t,st.op⟩)
def dropB (st : PS) : PS := ⟨st.l,none,st.op⟩
def isB (t : Tk) (kind : Nat) (text : Txt) : Bool := decide (t.kind = kind) && (t.text == text)
def wantB (kind : Nat) (text : Txt) (st : PS) : R Unit := match peekB L st with
 | .error e => .error e
 | .ok (t,st) => if isB t kind text = true then
   (if kind = 4 ∧ (text = sLp ∨ text = sLb) then (if 10 < st.op + 1 then .error (35,t.at_) else .ok ((),⟨st.l,none,st.op + 1⟩))
   else if kind = 4 ∧ (text = sRp ∨ text = sRb) then .ok ((),⟨st.l,none,st.op - 1⟩)
   else .ok ((),dropB st))
  else .error (36,t.at_)
def bindR {α β : Type} (x : R α) (f : α → PS → R β) : R β := match x with
 | .error e => .error e
 | .ok (a,st) => f a st
def opOf (t : Tk) (kind : Nat) (ops : List Txt) : Option Txt := if t.kind = kind then ops.find? (fun o => o == t.text) else none
/-- Parts with an operator between each two. -/
def loopB (part : PS → R N) (kind : Nat) (ops : List Txt) : Nat → N → PS → R N
 | 0,_,_ => .error (0,0)
 | f + 1,a,st => bindR (peekB L st) fun t st => match opOf t kind ops with
  | none => .ok (a,st)
  | some op => bindR (part (dropB st)) fun b st => loopB part kind ops f (.bin op a b) st
def itemsB (part : PS → R N) : Nat → List N → PS → R (List N)
 | 0,_,_ => .error (0,0)
 | f + 1,acc,st => if acc.length < 6 then bindR (peekB L st) fun t st =>
    if isB t 4 sCom = true then bindR (part (dropB st)) fun n st => itemsB part f (acc ++ [n]) st else .ok (acc,st)
   else .ok (acc,st)
def argsB (part : PS → R N) : Nat → List N → PS → R (List N)
 | 0,acc,st => .ok (acc,st)
 | k + 1,acc,st => bindR (if acc = [] then .ok ((),st) else wantB L 4 sCom st) fun _ st => bindR (part st) fun n st => argsB part k (acc ++ [n]) st
inductive Lv where
 | expr | or | and | not | cmp | sum | term | neg | atom | list | call (i : Nat)
def cmpOps : List Txt := [sEq,sNe,sLt,sLe,sGt,sGe]
/-- What begins here, at this level. -/
def prs : Nat → Lv → PS → R N
 | 0,_,_ => .error (0,0)
 | f + 1,.expr,st => bindR (peekB L st) fun t st => if isB t 2 tIf = true then
    bindR (prs f .expr (dropB st)) fun c st => bindR (wantB L 2 tThen st) fun _ st => bindR (prs f .expr st) fun a st => bindR (wantB L 2 tElse st) fun _ st => bindR (prs f .expr st) fun b st => .ok (.cnd c a b,st)
   else prs f .or st
 | f + 1,.or,st => bindR (prs f .and st) fun a st => loopB L (prs f .and) 2 [tOr] f a st
 | f + 1,.and,st => bindR (prs f .not st) fun a st => loopB L (prs f .not) 2 [tAnd] f a st
 | f + 1,.not,st => bindR (peekB L st) fun t st => if isB t 2 tNot = true then bindR (prs f .not (dropB st)) fun a st => .ok (.un tNot a,st) else prs f .cmp st
 | f + 1,.cmp,st => bindR (prs f .sum st) fun a st => bindR (peekB L st) fun t st => match opOf t 4 cmpOps with
   | none => .ok (a,st)
   | some op => bindR (prs f .sum (dropB st)) fun b st => .ok (.bin op a b,st)
 | f + 1,.sum,st => bindR (prs f .term st) fun a st => loopB L (prs f .term) 4 [sPlus,sMinus] f a st
 | f + 1,.term,st => bindR (prs f .neg st) fun a st => loopB L (prs f .neg) 4 [sMul,sDiv,sMod] f a st
 | f + 1,.neg,st => bindR (peekB L st) fun t st => if isB t 4 sMinus = true then bindR (prs f .neg (dropB st)) fun a st => .ok (.un sMinus a,st) else prs f .atom st
 | f + 1,.atom,st => bindR (peekB L st) fun t st =>
   if t.kind = 1 then .ok (.num t.num,dropB st)
   else if t.kind = 3 then .ok (.quo t.text,dropB st)
   else if isB t 4 sLp = true then bindR (wantB L 4 sLp st) fun _ st => bindR (prs f .expr st) fun n st => bindR (wantB L 4 sRp st) fun _ st => .ok (n,st)
   else if isB t 4 sLb = true then prs f .list st
   else if t.kind = 2 then (match findB t.text with
    | some i => prs f (.call i) st
    | none => if plainM.contains t.text = true then .ok (.wrd t.text,dropB st) else .error (36,t.at_))
   else .error (36,t.at_)
 | f + 1,.list,st => bindR (wantB L 4 sLb st) fun _ st => bindR (peekB L st) fun t st =>
   if isB t 4 sRb = true then bindR (wantB L 4 sRb st) fun _ st => .ok (.lst [],st)
   else bindR (prs f .expr st) fun n st => bindR (itemsB L (prs f .expr) f [n] st) fun l st => bindR (wantB L 4 sRb st) fun _ st => .ok (.lst l,st)
 | f + 1,.call i,st => bindR (peekB L st) fun _ st => bindR (wantB L 4 sLp (dropB st)) fun _ st => bindR (argsB L (prs f .expr) (takesB i) [] st) fun l st => bindR (wantB L 4 sRp st) fun _ st => .ok (.cal i l,st)
end
/-- The tree of a text, or its first fault. -/
def parseE (l : Txt) : Except Er N :=
 if 100 < l.length then .error (30,0) else
 match prs l.length (12 * l.length + 13) .expr ⟨l,none,0⟩ with
 | .error e => .error e
 | .ok (n,st) => match peekB l.length st with
  | .error e => .error e
  | .ok (t,_) => if t.kind = 0 then .ok n else .error (36,t.at_)
end Go.Proofs.YtmdmomccibpjbaaGreatDoor.E
namespace Go.Proofs.YtmdmomccibpjbaaGreatDoor.Tr
open Go
def leafD (e : Exit) (a : Act) : T :=
 match a.defers with
 | [d] => match d.target with
  | .fn fv cap => .fin e [(0,.func fv #[] cap),(1,.agg d.args),(2,.agg a.tmps)]
  | _ => .stuck
 | _ => .stuck
def defT (P : Program) (fn : Func) (args : Array Value) (s : Script) : T :=
 match fn.body with
 | some c => codeT P c { tmps := args ++ Array.replicate (fn.ntmps - args.size) undef,defers := [] } s (fun _ e a => leafD e a)
 | none => .stuck
def leftD (P : Program) (fn : Func) (R : Ending → World → Prop) (e : Exit) (L : List (Tmp × Value)) (w : World) : Prop :=
 ∃ fv cap dargs tmps,L = [(0,.func fv #[] cap),(1,.agg dargs),(2,.agg tmps)] ∧ (match e with
  | .normal => Leaves P fn tmps R [{ target := .fn fv cap,args := dargs }] .returning w
  | .ret => Leaves P fn tmps R [{ target := .fn fv cap,args := dargs }] .returning w
  | .panic ch => Leaves P fn tmps R [{ target := .fn fv cap,args := dargs }] (.panicking ch) w
  | _ => False)
theorem calls_of_defT {P : Program} (hm : P.follows .mixedOrders = true) {f : FuncId} {fn : Func} (hf : P.funcs[f]? = some fn) {args : Array Value} {s : Script} {w : World} {R : Ending → World → Prop}
  (h : wpT P (fun _ _ => False) (leftD P fn R) (defT P fn args s) .pl w) : Calls P f args w R := by
 unfold defT at h
 split at h
 ·rename_i c hc
  refine calls_of_wp_defers hf hc (codeT_sound hm c _ _ _ (fun ch a w _ h => h.elim) ?_ h)
  intro s e a' w' _ h
  unfold leafD at h
  split at h
  ·rename_i d hd
   split at h
   ·rename_i fv cap ht
    obtain ⟨fv',cap',dargs',tmps',hL,h⟩ := h
    simp only [List.cons.injEq,Prod.mk.injEq,Value.func.injEq,Value.agg.injEq,true_and,and_true] at hL
    obtain ⟨⟨rfl,rfl⟩,rfl,rfl⟩ := hL
    have hd' : a'.defers = [{ target := .fn fv cap,args := d.args }] := by rw [hd,← ht]
    cases e with
    | normal => show Leaves _ _ _ _ a'.defers _ _; rw [hd']; exact h
    | ret => show Leaves _ _ _ _ a'.defers _ _; rw [hd']; exact h
    | panic ch => show Leaves _ _ _ _ a'.defers _ _; rw [hd']; exact h
    | exit i => exact h.elim
    | goto l => exact h.elim
    | outgrown => exact h.elim
   ·exact h.elim
  ·exact h.elim
 ·exact h.elim
end Go.Proofs.YtmdmomccibpjbaaGreatDoor.Tr
namespace Go.Proofs.YtmdmomccibpjbaaGreatDoor.V
open Go Tr
open Go.RowKit (Below)
set_option maxRecDepth 100000
section
variable {P : Program} {R : Ending → World → Prop} {Q : Exit → List (Tmp × Value) → World → Prop} {md : Md} [hmd : md.Runs] {w : World}
/-- A call that panics. -/
theorem cx_i {f : FuncId} {args : Array Value} {kp : List PanicEntry → T} {R' : Ending → World → Prop} (hc : Calls P f args w R') (h : ∀ e w',R' e w' → ∃ ch,e = .panicked ch ∧ wpT P R Q (kp ch) md w') : wpT P R Q (.callx f args kp) md w := by
 rw [wpT_callx]
 refine hc.mono fun e w' he => ?_
 obtain ⟨ch,rfl,hx⟩ := h e w' he
 exact hx
/-- A call that returns or panics. -/
theorem cp_i {f : FuncId} {args : Array Value} {s : Shape} {k : s.Vars → T} {kp : List PanicEntry → T} {R' : Ending → World → Prop} (hc : Calls P f args w R')
  (h : ∀ e w',R' e w' → (∃ x,e = .returned (s.val x) ∧ wpT P R Q (k x) md w') ∨ (∃ ch,e = .panicked ch ∧ wpT P R Q (kp ch) md w')) : wpT P R Q (.callp f args s k kp) md w := by
 rw [wpT_callp]
 refine hc.mono fun e w' he => ?_
 rcases h e w' he with ⟨x,rfl,hx⟩ | ⟨ch,rfl,hx⟩
 ·exact ⟨x,rfl,hx⟩
 ·exact hx
end
/-- What fail throws. -/
def thrown (e at_ : Int) : List PanicEntry := [⟨.iface 195 (.agg #[.int .i64 e,.int .i64 at_]),false,false⟩]
theorem add_block (a : Addr) (i : Nat) : (a.add i).block = a.block := by unfold Addr.add; split <;> rfl
theorem drop_cases {α : Type} (l : List α) (i : Nat) : (l.drop i = [] ∧ l.length ≤ i) ∨ ∃ u,l[i]? = some u ∧ l.drop i = u :: l.drop (i + 1) := by
 cases h : l[i]? with
 | none =>
  have := List.getElem?_eq_none_iff.1 h
  exact .inl ⟨List.drop_of_length_le this,this⟩
 | some u =>
  refine .inr ⟨u,rfl,?_⟩
  rw [List.drop_eq_getElem?_toList_append,h]; rfl
end Go.Proofs.YtmdmomccibpjbaaGreatDoor.V
namespace Go.Proofs.YtmdmomccibpjbaaGreatDoor.V
open Go Tr
open Go.RowKit (Below)
set_option maxRecDepth 100000
/-- The reader's state: at nd; the text; i of its bytes are read. -/
structure RdS (w : World) (nd : Nat) (s : ByteArray) (i : Nat) (parts : Int) : Prop where
 blk : Blk w nd [.string s,.int .i64 i,.int .i64 parts] 189
 le : i ≤ s.size
 big : s.size ≤ 140737488355328
namespace RdS
variable {w w' : World} {nd : Nat} {s : ByteArray} {i : Nat} {parts : Int}
theorem c0 (D : RdS w nd s i parts) : w.cell? ⟨nd,0,none⟩ = some (.string s) := D.blk.cell 0
theorem c1 (D : RdS w nd s i parts) : w.cell? ⟨nd,1,none⟩ = some (.int .i64 i) := D.blk.cell 1
theorem c2 (D : RdS w nd s i parts) : w.cell? ⟨nd,2,none⟩ = some (.int .i64 parts) := D.blk.cell 2
theorem no (D : RdS w nd s i parts) (h : Ch No w w') : RdS w' nd s i parts := ⟨D.blk.ch h (fun h => h),D.le,D.big⟩
theorem keep (D : RdS w nd s i parts) {S : Nat → Prop} (h : Ch S w w') (hS : ¬ S nd) : RdS w' nd s i parts := ⟨D.blk.ch h hS,D.le,D.big⟩
theorem set (D : RdS w nd s i parts) {i' : Nat} {parts' : Int} (hb : Blk w' nd [.string s,.int .i64 i',.int .i64 parts'] 189) (hi : i' ≤ s.size) : RdS w' nd s i' parts' := ⟨hb,hi,D.big⟩
end RdS
abbrev rest (s : ByteArray) (i : Nat) : List UInt8 := s.data.toList.drop i
theorem restL (s : ByteArray) (i : Nat) : (rest s i).length = s.size - i := by show (List.drop i _).length = _; rw [List.length_drop]; simp
/-- The reader gave up, with this fault. -/
def RBad (s : ByteArray) (f : Flt) (e : Ending) : Prop := e = .panicked (thrown f.1 ((s.size - f.2 : Nat) : Int))
theorem RBad.mk (er : Int) {s : ByteArray} {a : Nat} (h : a ≤ s.size) : RBad s (er,(rest s a).length) (.panicked (thrown er a)) := by
 unfold RBad
 dsimp only
 rw [restL,show s.size - (s.size - a) = a by omega]
theorem sizeB (s : ByteArray) : s.data.toList.length = s.size := by simp
theorem rest_cases (s : ByteArray) (i : Nat) (hi : i ≤ s.size) : (rest s i = [] ∧ i = s.size) ∨ ∃ h : i < s.size,rest s i = s[i]'h :: rest s (i + 1) := by
 rcases drop_cases s.data.toList i with ⟨h1,h2⟩ | ⟨u,hu,hd⟩
 ·exact .inl ⟨h1,by have := sizeB s; omega⟩
 ·have hlt := (List.getElem?_eq_some_iff.1 hu).1
  have hlt' : i < s.size := by have := sizeB s; omega
  refine .inr ⟨hlt',?_⟩
  show s.data.toList.drop i = _
  rw [hd]
  congr 1
  have := (List.getElem?_eq_some_iff.1 hu).2
  rw [← this]
  simp [ByteArray.getElem_eq_getElem_data]
/-! the tree of function 102 -/
def s102 : Script := .nil
theorem t102 (qa0 : Addr) (qx1 : Int) (qx2 : Int) : fnT Tryz.prog Tryz.f102 #[.pointer (some qa0),.int .i64 qx1,.int .i64 qx2] s102 = .done (.panicked [⟨.iface 195 (.agg #[.int .i64 qx1,.int .i64 qx2]),false,false⟩]) := by kernel_rfl
/-! the tree of function 122 -/
def s122 : Script := .qt (.ld (.int .i64) (.ld .str (.sym (.qt (.ld .str (.ld (.int .i64) (.ix .nil)))) .nil)))
theorem t122 (qa0 : Addr) : fnT Tryz.prog Tryz.f122 #[.pointer (some qa0)] s122 = .drawn (.load (qa0.add 1) (.int .i64) (fun x1 => .load qa0 .str (fun s2 => .undrawn (.br (Decidable.decide (x1 < (↑s2.size : Int))) (.drawn (.load qa0 .str (fun s3 => .load (qa0.add 1) (.int .i64) (fun x4 => .bidx s3 x4 (fun c5 => .undrawn (.done (.returned (.int .u8 c5)))))))) (.done (.returned (.int .u8 0))))))) := by kernel_rfl
/-! the tree of function 100 -/
abbrev fx100_1 (qa0 : Addr) : List (Tmp × Value) := [(0,.pointer (some qa0))]
abbrev m100_1 : List (Tmp × Comp) := []
abbrev mx100_1 : List (Tmp × Comp) := []
abbrev mr100_1 : List (Tmp × Comp) := []
abbrev fx100_2 (qa0 : Addr) : List (Tmp × Value) := [(0,.pointer (some qa0))]
abbrev mx100_2 : List (Tmp × Comp) := [(9,.leaf .bool)]
def s100_2 : Script := .cl (.one (.leaf (.int .u8))) (.sym (.lit (.lit (.lit .nil))) (.lit (.cl (.one (.leaf (.int .u8))) (.lit (.lit .nil)))))
theorem t100_2 (qa0 : Addr) (gg2 : Nat → Value) : pieceT Tryz.prog (at_ Tryz.f100 [0,0,0,0]) 17 (fx100_2 qa0) gg2 (mx100_2.map (·.1)) [] [] s100_2 = .call 122 #[.pointer (some qa0)] (.one (.leaf (.int .u8))) (fun x3 => .br (x3 == 32) (.fin .normal [(9,.bool true)]) (.call 122 #[.pointer (some qa0)] (.one (.leaf (.int .u8))) (fun x4 => .fin .normal [(9,.bool (x4 == 9))]))) := by kernel_rfl
def s100_1 : Script := .ct 1 [0] mx100_2 (.sym (.ld (.int .i64) .nil) .nil)
theorem t100_1 (qa0 : Addr) (gg1 : Nat → Value) : pieceT Tryz.prog (at_ Tryz.f100 [0,0]) 17 (fx100_1 qa0 ++ mvals m100_1 (())) gg1 (m100_1.map (·.1)) (mx100_1.map (·.1)) (mr100_1.map (·.1)) s100_1 = .cut (at_ Tryz.f100 [0,0,0,0]) 17 (fx100_2 qa0) mx100_2 (fun u5 g5 => .br u5.1 (.load (qa0.add 1) (.int .i64) (fun x6 => .store (qa0.add 1) (.int .i64 (IntKind.i64.wrap (x6 + 1))) (.fin .normal []))) (.fin (.exit 0) [])) := by kernel_rfl
def s100 : Script := .lp 0 [0] [] mx100_1 mr100_1 .nil .nil
theorem t100 (qa0 : Addr) : fnT Tryz.prog Tryz.f100 #[.pointer (some qa0)] s100 = .loop (at_ Tryz.f100 [0,0]) 17 (fx100_1 qa0) [] mx100_1 mr100_1 0 (fun u7 g7 => .done (.returned (.tuple #[]))) (fun u8 g8 => .stuck) := by kernel_rfl
/-! the tree of function 123 -/
abbrev fx123_1 (qa0 : Addr) (qs1 : ByteArray) : List (Tmp × Value) := [(0,.pointer (some qa0)),(1,.string qs1),(6,.int .i64 (↑qs1.size : Int))]
abbrev m123_1 : List (Tmp × Comp) := [(7,.leaf (.int .i64))]
abbrev mx123_1 : List (Tmp × Comp) := []
abbrev mr123_1 : List (Tmp × Comp) := []
abbrev fx123_2 (qa0 : Addr) (qs1 : ByteArray) (x_7 : Int) : List (Tmp × Value) := [(0,.pointer (some qa0)),(1,.string qs1),(4,.int .i64 x_7),(6,.int .i64 (↑qs1.size : Int)),(7,.int .i64 x_7)]
abbrev mx123_2 : List (Tmp × Comp) := []
def s123_2 : Script := .qt (.cl (.one (.leaf (.int .u8))) (.ix (.sym (.ld (.int .i64) (.clx .nil)) .nil)))
theorem t123_2 (qa0 : Addr) (qs1 : ByteArray) (x_7 : Int) (gg2 : Nat → Value) : pieceT Tryz.prog (at_ Tryz.f123 [1,0,0,1,1,0,0,1,0]) 30 (fx123_2 qa0 qs1 x_7) gg2 (mx123_2.map (·.1)) [] [] s123_2 = .drawn (.call 122 #[.pointer (some qa0)] (.one (.leaf (.int .u8))) (fun x3 => .bidx qs1 x_7 (fun c4 => .undrawn (.br (x3 != c4) (.load (qa0.add 1) (.int .i64) (fun x5 => .callx 102 #[.pointer (some qa0),.int .i64 28,.int .i64 x5] (fun ch6 => .done (.panicked ch6)))) (.fin .normal []))))) := by kernel_rfl
def s123_1 : Script := .sym (.ct 2 [0,1,4,6,7] mx123_2 (.ld (.int .i64) .nil)) .nil
theorem t123_1 (qa0 : Addr) (qs1 : ByteArray) (x_7 : Int) (gg1 : Nat → Value) : pieceT Tryz.prog (at_ Tryz.f123 [1,0,0]) 30 (fx123_1 qa0 qs1 ++ mvals m123_1 (x_7,())) gg1 (m123_1.map (·.1)) (mx123_1.map (·.1)) (mr123_1.map (·.1)) s123_1 = .br (Decidable.decide (x_7 < (↑qs1.size : Int))) (.cut (at_ Tryz.f123 [1,0,0,1,1,0,0,1,0]) 30 (fx123_2 qa0 qs1 x_7) mx123_2 (fun u7 g7 => .load (qa0.add 1) (.int .i64) (fun x8 => .store (qa0.add 1) (.int .i64 (IntKind.i64.wrap (x8 + 1))) (.fin .normal [(7,.int .i64 (IntKind.i64.wrap (x_7 + 1)))])))) (.fin (.exit 0) []) := by kernel_rfl
def s123 : Script := .lp 0 [0,1,6] [7] mx123_1 mr123_1 .nil .nil
theorem t123 (qa0 : Addr) (qs1 : ByteArray) : fnT Tryz.prog Tryz.f123 #[.pointer (some qa0),.string qs1] s123 = .loop (at_ Tryz.f123 [1,0,0]) 30 (fx123_1 qa0 qs1) [(7,.int .i64 0)] mx123_1 mr123_1 0 (fun u9 g9 => .done (.returned (.tuple #[]))) (fun u10 g10 => .stuck) := by kernel_rfl
/-! the tree of function 152 -/
abbrev fx152_3 (qa0 : Addr) (x1 : Int) : List (Tmp × Value) := [(0,.pointer (some qa0)),(3,.int .u8 x1)]
abbrev mx152_3 : List (Tmp × Comp) := [(13,.leaf .bool)]
def s152_3 : Script := .sym (.lit (.lit .nil)) (.lit (.lit .nil))
theorem t152_3 (qa0 : Addr) (x1 : Int) (gg3 : Nat → Value) : pieceT Tryz.prog (at_ Tryz.f152 [1,1,1,0,0,0]) 49 (fx152_3 qa0 x1) gg3 (mx152_3.map (·.1)) [] [] s152_3 = .br (Decidable.decide (x1 ≥ 48)) (.fin .normal [(13,.bool (Decidable.decide (x1 ≤ 57)))]) (.fin .normal [(13,.bool false)]) := by kernel_rfl
abbrev fx152_5 (qa0 : Addr) (x1 : Int) : List (Tmp × Value) := [(0,.pointer (some qa0)),(3,.int .u8 x1)]
abbrev mx152_5 : List (Tmp × Comp) := [(22,.leaf .bool)]
def s152_5 : Script := .sym (.lit (.lit .nil)) (.lit (.lit .nil))
theorem t152_5 (qa0 : Addr) (x1 : Int) (gg5 : Nat → Value) : pieceT Tryz.prog (at_ Tryz.f152 [1,1,1,0,0,1,1,0]) 49 (fx152_5 qa0 x1) gg5 (mx152_5.map (·.1)) [] [] s152_5 = .br (Decidable.decide (x1 ≥ 97)) (.fin .normal [(22,.bool (Decidable.decide (x1 ≤ 102)))]) (.fin .normal [(22,.bool false)]) := by kernel_rfl
abbrev fx152_7 (qa0 : Addr) (x1 : Int) : List (Tmp × Value) := [(0,.pointer (some qa0)),(3,.int .u8 x1)]
abbrev mx152_7 : List (Tmp × Comp) := [(32,.leaf .bool)]
def s152_7 : Script := .sym (.lit (.lit .nil)) (.lit (.lit .nil))
theorem t152_7 (qa0 : Addr) (x1 : Int) (gg7 : Nat → Value) : pieceT Tryz.prog (at_ Tryz.f152 [1,1,1,0,0,1,1,1,1,0]) 49 (fx152_7 qa0 x1) gg7 (mx152_7.map (·.1)) [] [] s152_7 = .br (Decidable.decide (x1 ≥ 65)) (.fin .normal [(32,.bool (Decidable.decide (x1 ≤ 70)))]) (.fin .normal [(32,.bool false)]) := by kernel_rfl
def s152 : Script := .cl (.one (.leaf (.int .u8))) (.ld (.int .i64) (.ct 1 [0,3] mx152_3 (.sym .nil (.ct 0 [0,3] mx152_5 (.sym .nil (.ct 0 [0,3] mx152_7 (.sym .nil (.ld (.int .i64) (.clx .nil)))))))))
theorem t152 (qa0 : Addr) : fnT Tryz.prog Tryz.f152 #[.pointer (some qa0)] s152 = .call 122 #[.pointer (some qa0)] (.one (.leaf (.int .u8))) (fun x1 => .load (qa0.add 1) (.int .i64) (fun x2 => .store (qa0.add 1) (.int .i64 (IntKind.i64.wrap (x2 + 1))) (.cut (at_ Tryz.f152 [1,1,1,0,0,0]) 49 (fx152_3 qa0 x1) mx152_3 (fun u4 g4 => .br u4.1 (.done (.returned (.int .u8 (IntKind.u8.wrap (x1 - 48))))) (.cut (at_ Tryz.f152 [1,1,1,0,0,1,1,0]) 49 (fx152_5 qa0 x1) mx152_5 (fun u6 g6 => .br u6.1 (.done (.returned (.int .u8 (IntKind.u8.wrap (IntKind.u8.wrap (x1 - 97) + 10))))) (.cut (at_ Tryz.f152 [1,1,1,0,0,1,1,1,1,0]) 49 (fx152_7 qa0 x1) mx152_7 (fun u8 g8 => .br u8.1 (.done (.returned (.int .u8 (IntKind.u8.wrap (IntKind.u8.wrap (x1 - 65) + 10))))) (.load (qa0.add 1) (.int .i64) (fun x9 => .callx 102 #[.pointer (some qa0),.int .i64 28,.int .i64 (IntKind.i64.wrap (x9 - 1))] (fun ch10 => .done (.panicked ch10)))))))))))) := by kernel_rfl
/-! the tree of function 144 -/
abbrev fx144_2 (qa0 : Addr) (x1 : Int) : List (Tmp × Value) := [(0,.pointer (some qa0)),(3,.int .u8 x1),(7,.int .u8 x1)]
abbrev mx144_2 : List (Tmp × Comp) := [(8,.leaf .bool)]
def s144_2 : Script := .sym .nil .nil
theorem t144_2 (qa0 : Addr) (x1 : Int) (gg2 : Nat → Value) : pieceT Tryz.prog (at_ Tryz.f144 [1,1,0,1,0,0]) 59 (fx144_2 qa0 x1) gg2 (mx144_2.map (·.1)) [] [] s144_2 = .br (x1 == 34) (.fin .normal [(8,.bool true)]) (.fin .normal [(8,.bool (x1 == 92))]) := by kernel_rfl
def s144 : Script := .cl (.one (.leaf (.int .u8))) (.ct 2 [0,3,7] mx144_2 (.sym (.ld (.int .i64) .nil) (.sym (.ld (.int .i64) .nil) (.sym (.ld (.int .i64) .nil) (.sym (.ld (.int .i64) (.clp (.one (.leaf (.int .u8))) (.clp (.one (.leaf (.int .u8))) .nil .nil) .nil)) (.ld (.int .i64) (.clx .nil)))))))
theorem t144 (qa0 : Addr) : fnT Tryz.prog Tryz.f144 #[.pointer (some qa0)] s144 = .call 122 #[.pointer (some qa0)] (.one (.leaf (.int .u8))) (fun x1 => .cut (at_ Tryz.f144 [1,1,0,1,0,0]) 59 (fx144_2 qa0 x1) mx144_2 (fun u3 g3 => .br u3.1 (.load (qa0.add 1) (.int .i64) (fun x4 => .store (qa0.add 1) (.int .i64 (IntKind.i64.wrap (x4 + 1))) (.done (.returned (.int .u8 x1))))) (.br (x1 == 110) (.load (qa0.add 1) (.int .i64) (fun x5 => .store (qa0.add 1) (.int .i64 (IntKind.i64.wrap (x5 + 1))) (.done (.returned (.int .u8 10))))) (.br (x1 == 116) (.load (qa0.add 1) (.int .i64) (fun x6 => .store (qa0.add 1) (.int .i64 (IntKind.i64.wrap (x6 + 1))) (.done (.returned (.int .u8 9))))) (.br (x1 == 120) (.load (qa0.add 1) (.int .i64) (fun x7 => .store (qa0.add 1) (.int .i64 (IntKind.i64.wrap (x7 + 1))) (.callp 152 #[.pointer (some qa0)] (.one (.leaf (.int .u8))) (fun x8 => .callp 152 #[.pointer (some qa0)] (.one (.leaf (.int .u8))) (fun x9 => .done (.returned (.int .u8 (IntKind.u8.wrap (↑(BitVec.ofInt IntKind.u8.bits (IntKind.u8.wrap (x8 * 2 ^ Min.min (Int.toNat 4) IntKind.u8.bits)) ||| BitVec.ofInt IntKind.u8.bits x9).toNat : Int))))) (fun ch10 => .done (.panicked ch10))) (fun ch11 => .done (.panicked ch11))))) (.load (qa0.add 1) (.int .i64) (fun x12 => .callx 102 #[.pointer (some qa0),.int .i64 28,.int .i64 x12] (fun ch13 => .done (.panicked ch13))))))))) := by kernel_rfl
theorem rfail_any (a : Addr) (e p : Int) (w : World) : Calls Tryz.prog 102 #[.pointer (some a),.int .i64 e,.int .i64 p] w fun r w' => r = .panicked (thrown e p) ∧ w' = w := by
 refine calls_of_fnT mixed Tryz.func102 (s := s102) ?_
 rw [t102]
 exact ⟨rfl,rfl⟩
theorem peek_any (w : World) (nd : Nat) (s : ByteArray) (i : Nat) (parts : Int) (D : RdS w nd s i parts) :
  Calls Tryz.prog 122 #[.pointer (some ⟨nd,0,none⟩)] w fun e w' => e = .returned (.int .u8 (pk (rest s i) : Int)) ∧ Ch No w w' := by
 refine calls_of_fnT mixed Tryz.func122 (s := s122) ?_
 rw [t122]
 simp only [addr_add,Nat.zero_add]
 have hle := D.le
 refine ⟨fun w'' => Ch No w w'',(Ch.refl _ _).drew,_,fun w'' h => (D.no h).c1,_,fun w'' h => (D.no h).c0,fun w1 h1 => ?_⟩
 have D1 := D.no h1
 refine br_both (fun e => ?_) fun e => ?_
 ·have e : (i : Int) < (s.size : Int) := of_decide_eq_true e
  have hi : i < s.size := by omega
  rcases rest_cases s i hle with ⟨_,hr⟩ | ⟨_,hr⟩
  ·omega
  refine ⟨fun w'' => Ch No w1 w'',(Ch.refl _ _).drew,_,fun w'' h => (D1.no h).c0,_,fun w'' h => (D1.no h).c1,?_⟩
  refine ⟨by omega,by simpa using hi,fun w'' h => ⟨?_,h1.trans h⟩⟩
  rw [hr]; rfl
 ·have e : ¬ (i : Int) < (s.size : Int) := of_decide_eq_false e
  rcases rest_cases s i hle with ⟨hr,_⟩ | ⟨_,_⟩
  ·refine ⟨?_,h1⟩
   rw [hr]; rfl
  ·omega
/-- One byte is passed over. -/
theorem at_next {P : Program} {R : Ending → World → Prop} {Q : Exit → List (Tmp × Value) → World → Prop} {w : World} {nd : Nat} {s : ByteArray} {i : Nat} {parts : Int} (D : RdS w nd s i parts) (hi : i < s.size) {k : T}
  (h : ∀ w1,Ch (· = nd) w w1 → RdS w1 nd s (i + 1) parts → wpT P R Q k .pl w1) : wpT P R Q (.store ⟨nd,1,none⟩ (.int .i64 (IntKind.i64.wrap ((i : Int) + 1))) k) .pl w := by
 have hbig := D.big
 have hw : IntKind.i64.wrap ((i : Int) + 1) = ((i + 1 : Nat) : Int) := by rw [IntKind.wrap_i64]; omega
 rw [hw]
 exact st_blk D.blk (by simp) rfl fun w1 h1 z1 b1 => h w1 h1 (D.set b1 hi)
theorem pk_lt (s : ByteArray) (i : Nat) (h : pk (rest s i) ≠ 0) : i < s.size := by
 rcases Nat.lt_or_ge i s.size with h' | h'
 ·exact h'
 ·exact absurd (by rw [show rest s i = [] from List.drop_of_length_le (by have := sizeB s; omega)]; rfl) h
theorem rest_tail (s : ByteArray) (i : Nat) : (rest s i).tail = rest s (i + 1) := by
 show (List.drop i _).tail = _
 rw [List.tail_drop]
theorem pk_256 (l : List UInt8) : pk l < 256 := by
 cases l with
 | nil => decide
 | cons c l => exact c.toNat_lt
theorem blanksM_step (l : List UInt8) : blanksM l = if pk l = 32 ∨ pk l = 9 then blanksM l.tail else l := by
 unfold blanksM
 cases l with
 | nil => rfl
 | cons c r =>
  rw [List.dropWhile_cons]
  unfold isBl
  simp only [pk,List.tail_cons,Bool.or_eq_true,decide_eq_true_eq]
  rfl
theorem blanks_any (w : World) (nd : Nat) (s : ByteArray) (i : Nat) (parts : Int) (D : RdS w nd s i parts) :
  Calls Tryz.prog 100 #[.pointer (some ⟨nd,0,none⟩)] w fun e w' => e = .returned (.tuple #[]) ∧ Ch (· = nd) w w' ∧ ∃ i',RdS w' nd s i' parts ∧ rest s i' = blanksM (rest s i) := by
 refine calls_of_fnT mixed Tryz.func100 (s := s100) ?_
 rw [t100]
 refine loop_i mixed m100_1 s100_1 (by kernel_rfl) (by kernel_rfl)
  (fun (_ : Unit) w' => ∃ i',RdS w' nd s i' parts ∧ Ch (· = nd) w w' ∧ blanksM (rest s i') = blanksM (rest s i))
  (fun (_ : Unit) w' => match w'.cell? ⟨nd,1,none⟩ with
   | some (.int _ x) => s.size - x.toNat
   | _ => 0) () rfl ⟨i,D,Ch.refl _ _,rfl⟩ ?_
 rintro ⟨⟩ g w1 ⟨j,D1,h1,hb⟩
 rw [t100_1]
 simp only [addr_add,Nat.zero_add]
 have hst := blanksM_step (rest s j)
 refine cut_i mixed s100_2 (fun (v : Bool × Unit) w' => v.1 = decide (pk (rest s j) = 32 ∨ pk (rest s j) = 9) ∧ Ch No w1 w') (by kernel_rfl) (fun g => ?_) ?_
 ·rw [t100_2]
  refine cl_i (peek_any w1 nd s j parts D1) ?_
  rintro e w2 ⟨rfl,h2⟩
  refine ⟨_,rfl,br_both (fun e => ⟨rfl,(true,()),rfl,?_,h2⟩) fun e => ?_⟩
  ·have e : (pk (rest s j) : Int) = 32 := by simpa using e
   exact (decide_eq_true (.inl (by omega))).symm
  ·have e : ¬ (pk (rest s j) : Int) = 32 := by simpa using e
   refine cl_i (peek_any w2 nd s j parts (D1.no h2)) ?_
   rintro e w3 ⟨rfl,h3⟩
   refine ⟨_,rfl,rfl,(_,()),rfl,?_,h2.trans h3⟩
   show ((pk (rest s j) : Int) == 9) = _
   by_cases h9 : pk (rest s j) = 9
   ·rw [h9]; rfl
   ·rw [decide_eq_false (by omega),beq_eq_false_iff_ne]
    omega
 rintro ⟨b,⟨⟩⟩ g w2 ⟨hb2,h2⟩
 dsimp only at hb2
 subst hb2
 have D2 := D1.no h2
 refine br_both (fun e => ?_) fun e => ?_
 ·have e := of_decide_eq_true e
  have hj := pk_lt s j (by omega)
  refine ld_int D2.c1 (at_next D2 hj fun w3 h3 D3 => ?_)
  refine ⟨(),rfl,⟨j + 1,D3,h1.trans (h2.no.trans h3),?_⟩,?_⟩
  ·rw [← hb,hst,if_pos e,rest_tail]
  ·rw [D1.c1,D3.c1]
   dsimp only
   rw [Int.toNat_natCast,Int.toNat_natCast]
   omega
 ·have e := of_decide_eq_false e
  refine ⟨rfl,(),rfl,fun g => ⟨rfl,h1.trans h2.no,j,D2,?_⟩⟩
  rw [← hb,hst,if_neg e]
theorem pk_rest {s : ByteArray} {i : Nat} (h : i < s.size) : rest s i = s[i]'h :: rest s (i + 1) := by
 rcases rest_cases s i (by omega) with ⟨_,h'⟩ | ⟨_,h'⟩
 ·omega
 ·exact h'
theorem want_any (w : World) (nd : Nat) (s : ByteArray) (i : Nat) (parts : Int) (ws : ByteArray) (hws : ∀ c ∈ ws.data.toList,c ≠ 0) (hb : ws.size ≤ 100) (D : RdS w nd s i parts) :
  Calls Tryz.prog 123 #[.pointer (some ⟨nd,0,none⟩),.string ws] w fun e w' => Ch (· = nd) w w' ∧ match wantX ws.data.toList (rest s i) with
   | .ok l' => e = .returned (.tuple #[]) ∧ RdS w' nd s (i + ws.size) parts ∧ l' = rest s (i + ws.size)
   | .error f => RBad s f e := by
 refine calls_of_fnT mixed Tryz.func123 (s := s123) ?_
 rw [t123]
 have hbig := D.big
 refine loop_i mixed m123_1 s123_1 (by kernel_rfl) (by kernel_rfl)
  (fun (v : Int × Unit) w' => ∃ j : Nat,v.1 = j ∧ j ≤ ws.size ∧ RdS w' nd s (i + j) parts ∧ Ch (· = nd) w w' ∧ wantX ws.data.toList (rest s i) = wantX (ws.data.toList.drop j) (rest s (i + j)))
  (fun (v : Int × Unit) _ => ws.size - v.1.toNat) (0,()) rfl ⟨0,rfl,by omega,D,Ch.refl _ _,by simp⟩ ?_
 rintro ⟨_,⟨⟩⟩ g w1 ⟨j,rfl,hj,D1,h1,ht⟩
 rw [t123_1]
 simp only [addr_add,Nat.zero_add]
 refine br_both (fun e => ?_) fun e => ?_
 ·have e : (j : Int) < (ws.size : Int) := of_decide_eq_true e
  have hjs : j < ws.size := by omega
  have hwl := sizeB ws
  have hdr : ws.data.toList.drop j = ws[j]'hjs :: ws.data.toList.drop (j + 1) := by
   rcases rest_cases ws j (by omega) with ⟨_,h⟩ | ⟨_,h⟩
   ·omega
   ·exact h
  have hget : ws.data.toList[j]? = some (ws[j]'hjs) := by
   rw [List.getElem?_eq_getElem (by omega)]
   simp [ByteArray.getElem_eq_getElem_data]
  refine cut_i mixed s123_2 (fun (v : Unit) w' => pk (rest s (i + j)) = (ws[j]'hjs).toNat ∧ Ch No w1 w') (by kernel_rfl) (fun g => ?_) ?_
  ·rw [t123_2]
   simp only [addr_add,Nat.zero_add]
   refine ⟨fun w'' => Ch No w1 w'',(Ch.refl _ _).drew,_,fun w'' h => (peek_any w'' nd s (i + j) parts (D1.no h)).mono fun e w3 ⟨he,h3⟩ => ⟨he,h.trans h3⟩,?_⟩
   refine ⟨by omega,by simpa using hjs,fun w2 h2 => ?_⟩
   refine br_both (fun e => ?_) fun e => ?_
   ·have D2 := D1.no h2
    refine ld_int D2.c1 ?_
    refine cx_i (rfail_any _ _ _ w2) ?_
    rintro r w4 ⟨rfl,rfl⟩
    refine ⟨_,rfl,h1.trans h2.no,?_⟩
    have e : ¬ (pk (rest s (i + j)) : Int) = ((ws[j]'hjs).toNat : Int) := by simpa using e
    have hne : ¬ pk (rest s (i + j)) = (ws[j]'hjs).toNat := fun h => e (congrArg (fun n : Nat => (n : Int)) h)
    rw [ht,hdr]
    unfold wantX
    rw [if_neg hne]
    exact RBad.mk 28 D2.le
   ·refine ⟨rfl,(),rfl,?_,h2⟩
    have e : ¬ (pk (rest s (i + j)) : Int) ≠ ((ws[j]'hjs).toNat : Int) := by simpa using e
    omega
  rintro ⟨⟩ g w2 ⟨hp,h2⟩
  have D2 := D1.no h2
  have hnz : pk (rest s (i + j)) ≠ 0 := by
   rw [hp]
   intro h0
   have := hws _ (List.mem_of_getElem? hget)
   apply this
   apply UInt8.toNat_inj.1
   rw [h0]; rfl
  have hlt := pk_lt s (i + j) hnz
  refine ld_int D2.c1 (at_next D2 hlt fun w3 h3 D3 => ?_)
  have hwj : IntKind.i64.wrap ((j : Int) + 1) = ((j + 1 : Nat) : Int) := by rw [IntKind.wrap_i64]; omega
  rw [hwj]
  refine ⟨(((j + 1 : Nat) : Int),()),rfl,⟨j + 1,rfl,by omega,D3,h1.trans (h2.no.trans h3),?_⟩,?_⟩
  ·rw [ht,hdr]
   conv => lhs; unfold wantX
   rw [if_pos hp,rest_tail]
   rfl
  ·dsimp only
   omega
 ·have e : ¬ (j : Int) < (ws.size : Int) := of_decide_eq_false e
  obtain rfl : j = ws.size := by omega
  refine ⟨rfl,(),rfl,fun g => ⟨h1,?_⟩⟩
  have hwl := sizeB ws
  rw [ht,List.drop_of_length_le (by omega)]
  exact ⟨rfl,D1,rfl⟩
theorem two_t {p a b : Nat} (e : decide ((p : Int) ≥ (a : Int)) = true) : decide ((p : Int) ≤ (b : Int)) = decide (a ≤ p ∧ p ≤ b) := by
 have e := of_decide_eq_true e
 exact decide_eq_decide.2 ⟨fun h => ⟨by omega,by omega⟩,fun h => by omega⟩
theorem two_f {p a b : Nat} (e : decide ((p : Int) ≥ (a : Int)) = false) : false = decide (a ≤ p ∧ p ≤ b) := by
 have e := of_decide_eq_false e
 exact (decide_eq_false fun h => e (by omega)).symm
theorem hex_any (w : World) (nd : Nat) (s : ByteArray) (i : Nat) (parts : Int) (D : RdS w nd s i parts) :
  Calls Tryz.prog 152 #[.pointer (some ⟨nd,0,none⟩)] w fun e w' => Ch (· = nd) w w' ∧ match hexP (pk (rest s i)) with
   | some x => e = .returned (.int .u8 (x : Int)) ∧ RdS w' nd s (i + 1) parts
   | none => RBad s (28,(rest s i).length) e := by
 refine calls_of_fnT mixed Tryz.func152 (s := s152) ?_
 rw [t152]
 simp only [addr_add,Nat.zero_add]
 have hbig := D.big
 have hle := D.le
 refine cl_i (peek_any w nd s i parts D) ?_
 rintro e w1 ⟨rfl,h1⟩
 refine ⟨_,rfl,?_⟩
 have D1 := D.no h1
 refine ld_int D1.c1 ?_
 have hw : IntKind.i64.wrap ((i : Int) + 1) = ((i + 1 : Nat) : Int) := by rw [IntKind.wrap_i64]; omega
 rw [hw]
 refine st_blk D1.blk (by simp) rfl fun w2 h2 z2 b2 => ?_
 have H2 : Ch (· = nd) w w2 := h1.no.trans h2
 have hp := pk_256 (rest s i)
 refine cut_i mixed s152_3 (fun (v : Bool × Unit) w' => w' = w2 ∧ v.1 = decide (48 ≤ pk (rest s i) ∧ pk (rest s i) ≤ 57)) (by kernel_rfl) (fun g => ?_) ?_
 ·rw [t152_3]
  exact br_both (fun e => ⟨rfl,(decide ((pk (rest s i) : Int) ≤ 57),()),rfl,rfl,two_t (a := 48) (b := 57) e⟩) fun e => ⟨rfl,(false,()),rfl,rfl,two_f (a := 48) (b := 57) e⟩
 rintro ⟨v,⟨⟩⟩ g w3 ⟨rfl,hv⟩
 dsimp only at hv
 subst hv
 have D3 : 48 ≤ pk (rest s i) → RdS w3 nd s (i + 1) parts := fun h => D1.set b2 (pk_lt s i (by omega))
 unfold hexP
 refine br_both (fun e => ?_) fun e1 => ?_
 ·have e := of_decide_eq_true e
  refine ⟨H2,?_⟩
  rw [if_pos e]
  refine ⟨?_,D3 e.1⟩
  rw [IntKind.wrap_u8']
  congr 3
  omega
 have e1 := of_decide_eq_false e1
 rw [if_neg e1]
 refine cut_i mixed s152_5 (fun (v : Bool × Unit) w' => w' = w3 ∧ v.1 = decide (97 ≤ pk (rest s i) ∧ pk (rest s i) ≤ 102)) (by kernel_rfl) (fun g => ?_) ?_
 ·rw [t152_5]
  exact br_both (fun e => ⟨rfl,(decide ((pk (rest s i) : Int) ≤ 102),()),rfl,rfl,two_t (a := 97) (b := 102) e⟩) fun e => ⟨rfl,(false,()),rfl,rfl,two_f (a := 97) (b := 102) e⟩
 rintro ⟨v,⟨⟩⟩ g w4 ⟨rfl,hv⟩
 dsimp only at hv
 subst hv
 refine br_both (fun e => ?_) fun e2 => ?_
 ·have e := of_decide_eq_true e
  refine ⟨H2,?_⟩
  rw [if_pos e]
  refine ⟨?_,D3 (by omega)⟩
  rw [IntKind.wrap_u8',IntKind.wrap_u8']
  congr 3
  omega
 have e2 := of_decide_eq_false e2
 rw [if_neg e2]
 refine cut_i mixed s152_7 (fun (v : Bool × Unit) w' => w' = w4 ∧ v.1 = decide (65 ≤ pk (rest s i) ∧ pk (rest s i) ≤ 70)) (by kernel_rfl) (fun g => ?_) ?_
 ·rw [t152_7]
  exact br_both (fun e => ⟨rfl,(decide ((pk (rest s i) : Int) ≤ 70),()),rfl,rfl,two_t (a := 65) (b := 70) e⟩) fun e => ⟨rfl,(false,()),rfl,rfl,two_f (a := 65) (b := 70) e⟩
 rintro ⟨v,⟨⟩⟩ g w5 ⟨rfl,hv⟩
 dsimp only at hv
 subst hv
 refine br_both (fun e => ?_) fun e3 => ?_
 ·have e := of_decide_eq_true e
  refine ⟨H2,?_⟩
  rw [if_pos e]
  refine ⟨?_,D3 (by omega)⟩
  rw [IntKind.wrap_u8',IntKind.wrap_u8']
  congr 3
  omega
 have e3 := of_decide_eq_false e3
 rw [if_neg e3]
 refine ld_int (x := ((i + 1 : Nat) : Int)) (b2.cell 1) ?_
 have hw2 : IntKind.i64.wrap (((i + 1 : Nat) : Int) - 1) = (i : Int) := by rw [IntKind.wrap_i64]; omega
 rw [hw2]
 refine cx_i (rfail_any _ _ _ w5) ?_
 rintro r w6 ⟨rfl,rfl⟩
 exact ⟨_,rfl,H2,RBad.mk 28 hle⟩
end Go.Proofs.YtmdmomccibpjbaaGreatDoor.V
