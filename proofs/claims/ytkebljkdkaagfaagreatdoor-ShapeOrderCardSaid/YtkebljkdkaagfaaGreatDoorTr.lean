/- A tree of what a function's code does, reckoned by the kernel out of the loaded body and a script of hints, and its soundness for the machine's calls. -/
import Derived.Calls
import Derived.Tactics
import Derived.Laws.Sem
import Derived.Laws.World
import Derived.Deep.Quiet
import Derived.OrdersHeld
import Derived.RangeFuncSeq
import Derived.RangeFuncCalls
import Derived.TacticsIn
namespace Go.Proofs.YtkebljkdkaagfaaGreatDoor
open Go
namespace Tr
/-- A constant text. -/
abbrev bytesL (l : List UInt8) : ByteArray := ⟨l.toArray⟩
inductive Leaf where
  | any | int (k : IntKind) | bool | str | ptr | sl | map | blk | ifc | fn | pfn
abbrev Leaf.Vars : Leaf → Type
  | .any => Value
  | .int _ => Int
  | .bool => Bool
  | .str => ByteArray
  | .ptr => Option Addr
  | .sl => Option Addr × Nat × Nat
  | .map => Option Nat
  | .blk => Nat
  | .ifc => TypeId × Value
  | .fn => FuncId × Array Value × Array Value
  | .pfn => FuncId
def Leaf.val : (l : Leaf) → l.Vars → Value
  | .any, v => v
  | .int k, n => .int k n
  | .bool, b => .bool b
  | .str, s => .string s
  | .ptr, p => .pointer p
  | .sl, x => .slice x.1 x.2.1 x.2.2
  | .map, r => .map r
  | .blk, b => .pointer (some ⟨b, 0, none⟩)
  | .ifc, x => .iface x.1 x.2
  | .fn, x => .func (.func x.1) x.2.1 x.2.2
  | .pfn, f => .func (.func f) #[] #[]
abbrev LVars : List Leaf → Type
  | [] => Unit
  | l :: r => l.Vars × LVars r
def lvals : (ls : List Leaf) → LVars ls → List Value
  | [], _ => []
  | l :: r, x => l.val x.1 :: lvals r x.2
inductive Comp where
  | leaf (z : Leaf)
  | agg (ls : List Leaf)
abbrev Comp.Vars : Comp → Type
  | .leaf z => z.Vars
  | .agg ls => LVars ls
def Comp.val : (c : Comp) → c.Vars → Value
  | .leaf z, x => z.val x
  | .agg ls, x => .agg (lvals ls x).toArray
abbrev CVars : List Comp → Type
  | [] => Unit
  | c :: r => c.Vars × CVars r
def cvals : (cs : List Comp) → CVars cs → List Value
  | [], _ => []
  | c :: r, x => c.val x.1 :: cvals r x.2
inductive Shape where
  | one (c : Comp)
  | tup (cs : List Comp)
abbrev Shape.Vars : Shape → Type
  | .one c => c.Vars
  | .tup cs => CVars cs
def Shape.val : (s : Shape) → s.Vars → Value
  | .one c, x => c.val x
  | .tup cs, x => .tuple (cvals cs x).toArray
abbrev MVars : List (Tmp × Comp) → Type
  | [] => Unit
  | m :: r => m.2.Vars × MVars r
def mvals : (ms : List (Tmp × Comp)) → MVars ms → List (Tmp × Value)
  | [], _ => []
  | m :: r, x => (m.1, m.2.val x.1) :: mvals r x.2
def lookT : List (Tmp × Value) → Nat → Option Value
  | [], _ => none
  | p :: r, i => match Nat.beq p.1 i with
    | true => some p.2
    | false => lookT r i
/-- A frame of n slots of which those of L are told; the others hold what g says. -/
def mkA (n : Nat) (L : List (Tmp × Value)) (g : Nat → Value) : Act := ⟨((List.range n).map fun i => (lookT L i).getD (g i)).toArray, []⟩
/-- As mkA, deferred calls waiting. -/
def mkD (n : Nat) (L : List (Tmp × Value)) (g : Nat → Value) (ds : List Deferred) : Act := ⟨((List.range n).map fun i => (lookT L i).getD (g i)).toArray, ds⟩
/-- The mark of a range over a function among the deferred calls. -/
def collD (D : Nat) : Deferred := { target := .collected D, args := #[] }
/-- Marks, told as a value. -/
def encN (Ds : List Nat) : Value := .tuple (Ds.map fun (D : Nat) => Value.int .i64 (D : Int)).toArray
/-- Leaving with marks: each block is taken. -/
def lvsP : List Deferred → World → (World → Prop) → Prop
  | [], w, K => K w
  | d :: ds, w, K => ∃ D, d = collD D ∧ w.heap[D]? = some (.deferred (some [])) ∧ lvsP ds (w.putObj D (.deferred none)) K
def lives (a : Act) (ts : List Tmp) : List (Tmp × Value) := ts.map fun t => (t, a.tmps.getD t undef)
inductive T where
  | done (e : Ending)
  | fin (e : Exit) (L : List (Tmp × Value))
  | load (a : Addr) (l : Leaf) (k : l.Vars → T)
  | store (a : Addr) (v : Value) (k : T)
  | new (o : Obj) (k : Nat → T)
  | br (b : Bool) (t e : T)
  | need (b : Bool) (k : T)
  | ptr (p : Option Addr) (k : Addr → T) (kn : T)
  | idx (base : Option Addr) (i : Int) (len size : Nat) (k : Addr → T)
  | bidx (s : ByteArray) (i : Int) (k : Int → T)
  | call (f : FuncId) (args : Array Value) (s : Shape) (k : s.Vars → T)
  | callp (f : FuncId) (args : Array Value) (s : Shape) (k : s.Vars → T) (kp : List PanicEntry → T)
  | callx (f : FuncId) (args : Array Value) (kp : List PanicEntry → T)
  | inv (f : FuncId) (args : Array Value) (s : Shape) (k : s.Vars → T)
  | yld (l : Nat) (args : Array Value) (k : Bool → T)
  | run (m : Sem Next) (s : Shape) (k : s.Vars → T)
  | act (m : Sem Next) (k : T)
  | loop (c : Code) (n : Nat) (fx : List (Tmp × Value)) (L : List (Tmp × Value)) (mx mr : List (Tmp × Comp)) (x : Nat) (kx : MVars mx → (Nat → Value) → T) (kr : MVars mr → (Nat → Value) → T)
  | cut (c : Code) (n : Nat) (fx : List (Tmp × Value)) (mx : List (Tmp × Comp)) (k : MVars mx → (Nat → Value) → T)
  | cutr (c : Code) (n : Nat) (fx L : List (Tmp × Value)) (mx mr : List (Tmp × Comp)) (k : MVars mx → (Nat → Value) → T) (kr : MVars mr → (Nat → Value) → T)
  | loopg (c : Code) (n : Nat) (fx L : List (Tmp × Value)) (mx mg : List (Tmp × Comp)) (x l : Nat) (kx : MVars mx → (Nat → Value) → T) (kg : MVars mg → (Nat → Value) → T)
  | scp (c : Code) (n : Nat) (fx L : List (Tmp × Value)) (mr : List (Tmp × Comp)) (kr : MVars mr → (Nat → Value) → T)
  | rfd (c : Code) (n : Nat) (fx : List (Tmp × Value)) (ds : List Deferred) (k kr : Nat → T)
  | loopd (c : Code) (n : Nat) (fx L : List (Tmp × Value)) (mx mr : List (Tmp × Comp)) (x : Nat) (kx : MVars mx → (Nat → Value) → List Nat → T) (kr : MVars mr → (Nat → Value) → List Nat → T)
  | loopr (l0 : Nat) (c : Code) (n : Nat) (fx L : List (Tmp × Value)) (mx mr : List (Tmp × Comp)) (x : Nat) (kx : MVars mx → (Nat → Value) → T) (kr : MVars mr → (Nat → Value) → T)
  | lvs (ds : List Deferred) (t : T)
  | finD (e : Exit) (L : List (Tmp × Value)) (ds : List Deferred)
  | drawn (t : T)
  | undrawn (t : T)
  | mark (t : T)
  | hdrawn (t : T)
  | eff (t : T)
  | back (t : T)
  | both (t e : T)
  | nxt (m : Sem Next) (cs : List Comp) (k : CVars cs → T) (ke : T)
  | triv
  | stuck
/-- How a tree is gone through: as it stands; inside a region that draws its order, C the worlds that it may see (quiet: nothing turns; held: C is kept by each of the region's operations); one operation of a held region. -/
inductive Md where
  | pl
  | qu (C : World → Prop)
  | he (C : World → Prop)
  | ef (C : World → Prop)
abbrev Md.told : Md → World → (World → Prop) → Prop
  | .pl, w, p => p w
  | .ef _, w, p => p w
  | .qu C, _, p => ∀ w, C w → p w
  | .he C, _, p => ∀ w, C w → p w
/-- The slots that a piece of code writes. -/
def wr : Code → List Tmp
  | .region _ ops _ => ops.toList.filterMap (·.dst)
  | .seq x y => wr x ++ wr y
  | .cond _ x y => wr x ++ wr y
  | .block _ c => wr c
  | .loop c => wr c
  | .scope c => wr c
  | .rangeFunc _ ps x y => ps.toList ++ wr x ++ wr y
  | _ => []
/-- May the code return? -/
def hasRet : Code → Bool
  | .ret => true
  | .seq x y => hasRet x || hasRet y
  | .cond _ x y => hasRet x || hasRet y
  | .block _ c => hasRet c
  | .loop c => hasRet c
  | .scope c => hasRet c
  | .rangeFunc _ _ _ _ => true
  | _ => false
/-- All these slots are written by the code. -/
def within (ms : List (Tmp × Comp)) (c : Code) : Bool := ms.all fun m => (wr c).contains m.1
section
variable (P : Program) (R : Ending → World → Prop) (Q : Exit → List (Tmp × Value) → World → Prop)
/-- What is asked of a world so that the tree's run from it ends as R (the function) or Q (a piece of code) says. -/
def wpT : T → Md → World → Prop
  | .done e, .pl, w => R e w
  | .done e, .ef _, w => R e w
  | .fin e L, .pl, w => Q e L w
  | .load a l k, m, w => ∃ x, m.told w (fun w => w.cell? a = some (l.val x)) ∧ wpT (k x) m w
  | .store a v k, .pl, w => v.oneCell' = true ∧ (∃ u, w.cell? a = some u) ∧ w.frozen? a = false ∧ wpT k .pl (w.setCell a v)
  | .store a v k, .ef C, w => v.oneCell' = true ∧ (∃ u, w.cell? a = some u) ∧ w.frozen? a = false ∧ wpT k (.ef C) (w.setCell a v)
  | .new o k, .pl, w => wpT (k w.heap.size) .pl (w.alloc o)
  | .new o k, .ef C, w => wpT (k w.heap.size) (.ef C) (w.alloc o)
  | .br b t e, m, w => (b = true → wpT t m w) ∧ (b = false → wpT e m w)
  | .need b k, m, w => b = true ∧ wpT k m w
  | .ptr p k kn, m, w => (∀ a, p = some a → wpT (k a) m w) ∧ (p = none → wpT kn m w)
  | .idx base i len size k, m, w => ∃ ad, base = some ad ∧ 0 ≤ i ∧ i < len ∧ wpT (k (ad.add (i.toNat * size))) m w
  | .bidx s i k, m, w => 0 ≤ i ∧ ∃ h : i.toNat < s.size, wpT (k ((s[i.toNat]'h).toNat : Int)) m w
  | .call f args s k, .pl, w => Calls P f args w (fun e w' => match e with
      | .returned v => ∃ x, v = s.val x ∧ wpT (k x) .pl w'
      | _ => False)
  | .call f args s k, .ef C, w => Calls P f args w (fun e w' => match e with
      | .returned v => ∃ x, v = s.val x ∧ wpT (k x) (.ef C) w'
      | _ => False)
  | .call f args s k, .qu C, w => ∃ x, (∀ w, C w → Calls P f args w (fun e w' => e = .returned (s.val x) ∧ C w')) ∧ wpT (k x) (.qu C) w
  | .callp f args s k kp, .pl, w => Calls P f args w (fun e w' => match e with
      | .returned v => ∃ x, v = s.val x ∧ wpT (k x) .pl w'
      | .panicked ch => wpT (kp ch) .pl w'
      | .outgrown => False)
  | .callp f args s k kp, .ef C, w => Calls P f args w (fun e w' => match e with
      | .returned v => ∃ x, v = s.val x ∧ wpT (k x) (.ef C) w'
      | .panicked ch => wpT (kp ch) (.ef C) w'
      | .outgrown => False)
  | .callx f args kp, .pl, w => Calls P f args w (fun e w' => match e with
      | .panicked ch => wpT (kp ch) .pl w'
      | _ => False)
  | .callx f args kp, .ef C, w => Calls P f args w (fun e w' => match e with
      | .panicked ch => wpT (kp ch) (.ef C) w'
      | _ => False)
  | .inv f args s k, .pl, w => (∀ w, (callFunc f args).run P w = .ok (.enter f args) w) ∧ Calls P f args w (fun e w' => match e with
      | .returned v => ∃ x, v = s.val x ∧ wpT (k x) .pl w'
      | _ => False)
  | .yld l args k, .pl, w => YieldAt Fence.wide 0 P l args w (fun e w' => match e with
      | .returned (.bool b) => wpT (k b) .pl w'
      | _ => False)
  | .run m s k, .pl, w => ∃ x w', m.run P w = .ok (.value (s.val x)) w' ∧ wpT (k x) .pl w'
  | .run m s k, .ef C, w => ∃ x w', m.run P w = .ok (.value (s.val x)) w' ∧ wpT (k x) (.ef C) w'
  | .run m s k, .qu C, w => ∃ x, (∀ w, C w → m.run P w = .ok (.value (s.val x)) w) ∧ wpT (k x) (.qu C) w
  | .run m s k, .he C, w => ∃ x, (∀ w, C w → m.run P w = .ok (.value (s.val x)) w) ∧ wpT (k x) (.he C) w
  | .nxt m cs k ke, .pl, w => (∃ x w', m.run P w = .ok (.value (.tuple (.bool true :: cvals cs x).toArray)) w' ∧ wpT (k x) .pl w') ∨ (∃ w', m.run P w = .ok (.value (.tuple #[.bool false])) w' ∧ wpT ke .pl w')
  | .act m k, .pl, w => ∃ w', m.run P w = .ok .skip w' ∧ wpT k .pl w'
  | .act m k, .ef C, w => ∃ w', m.run P w = .ok .skip w' ∧ wpT k (.ef C) w'
  | .loop c n fx L mx mr x kx kr, .pl, w => ∀ g, (Code.loop c).wp P (fun e a' w' => match e with
      | .exit i => i = x ∧ ∃ v g', (∀ j, j ∉ wr c → g' j = g j) ∧ a' = mkA n (fx ++ mvals mx v) g' ∧ wpT (kx v g') .pl w'
      | .ret => ∃ v g', (∀ j, j ∉ wr c → g' j = g j) ∧ a' = mkA n (fx ++ mvals mr v) g' ∧ wpT (kr v g') .pl w'
      | .panic ch => a'.defers = [] ∧ R (.panicked ch) w'
      | _ => False) (mkA n (fx ++ L) g) w
  | .cut c n fx mx k, .pl, w => ∀ g, c.wp P (fun e a' w' => match e with
      | .normal => ∃ v g', (∀ j, j ∉ wr c → g' j = g j) ∧ a' = mkA n (fx ++ mvals mx v) g' ∧ wpT (k v g') .pl w'
      | .panic ch => a'.defers = [] ∧ R (.panicked ch) w'
      | _ => False) (mkA n fx g) w
  | .cutr c n fx L mx mr k kr, .pl, w => ∀ g, c.wp P (fun e a' w' => match e with
      | .normal => ∃ v g', (∀ j, j ∉ wr c → g' j = g j) ∧ a' = mkA n (fx ++ mvals mx v) g' ∧ wpT (k v g') .pl w'
      | .ret => ∃ v g', (∀ j, j ∉ wr c → g' j = g j) ∧ a' = mkA n (fx ++ mvals mr v) g' ∧ wpT (kr v g') .pl w'
      | .panic ch => a'.defers = [] ∧ R (.panicked ch) w'
      | _ => False) (mkA n (fx ++ L) g) w
  | .loopg c n fx L mx mg x l kx kg, .pl, w => ∀ g, (Code.loop c).wp P (fun e a' w' => match e with
      | .exit i => i = x ∧ ∃ v g', (∀ j, j ∉ wr c → g' j = g j) ∧ a' = mkA n (fx ++ mvals mx v) g' ∧ wpT (kx v g') .pl w'
      | .goto i => i = l ∧ ∃ v g', (∀ j, j ∉ wr c → g' j = g j) ∧ a' = mkA n (fx ++ mvals mg v) g' ∧ wpT (kg v g') .pl w'
      | .panic ch => a'.defers = [] ∧ R (.panicked ch) w'
      | _ => False) (mkA n (fx ++ L) g) w
  | .scp c n fx L mr kr, .pl, w => ∀ g, (Code.scope c).wp P (fun e a' w' => match e with
      | .ret => ∃ v g', (∀ j, j ∉ wr c → g' j = g j) ∧ a' = mkA n (fx ++ mvals mr v) g' ∧ wpT (kr v g') .pl w'
      | .panic ch => a'.defers = [] ∧ R (.panicked ch) w'
      | _ => False) (mkA n (fx ++ L) g) w
  | .rfd c n fx ds k kr, .pl, w => ∀ g, c.wp P (fun e a' w' => match e with
      | .normal => ∃ D, a' = mkD n fx g (collD D :: ds) ∧ wpT (k D) .pl w'
      | .ret => ∃ D, a' = mkD n fx g (collD D :: ds) ∧ wpT (kr D) .pl w'
      | _ => False) (mkD n fx g ds) w
  | .loopd c n fx L mx mr x kx kr, .pl, w => ∀ g, (Code.loop c).wp P (fun e a' w' => match e with
      | .exit i => i = x ∧ ∃ v g' Ds, (∀ j, j ∉ wr c → g' j = g j) ∧ a' = mkD n (fx ++ mvals mx v) g' (Ds.map collD) ∧ wpT (kx v g' Ds) .pl w'
      | .ret => ∃ v g' Ds, (∀ j, j ∉ wr c → g' j = g j) ∧ a' = mkD n (fx ++ mvals mr v) g' (Ds.map collD) ∧ wpT (kr v g' Ds) .pl w'
      | .panic ch => a'.defers = [] ∧ R (.panicked ch) w'
      | _ => False) (mkA n (fx ++ L) g) w
  | .loopr l0 c n fx L mx mr x kx kr, .pl, w => ∀ g, (Code.loop c).wpIn (Fence.wide.inRound l0) 0 P (fun e a' w' => match e with
      | .exit i => i = x ∧ ∃ v g', (∀ j, j ∉ wr c → g' j = g j) ∧ a' = mkA n (fx ++ mvals mx v) g' ∧ wpT (kx v g') .pl w'
      | .ret => ∃ v g', (∀ j, j ∉ wr c → g' j = g j) ∧ a' = mkA n (fx ++ mvals mr v) g' ∧ wpT (kr v g') .pl w'
      | _ => False) (mkA n (fx ++ L) g) w
  | .lvs ds t, .pl, w => lvsP ds w (fun w' => wpT t .pl w')
  | .finD e L ds, .pl, w => ∃ Ds, ds = Ds.map collD ∧ Q e (L ++ [(0, encN Ds)]) w
  | .drawn t, .pl, w => ∃ C : World → Prop, C w.drew ∧ wpT t (.qu C) w
  | .undrawn t, .qu C, _ => ∀ w', C w' → wpT t .pl w'
  | .hdrawn t, .pl, w => ∃ C : World → Prop, C w.drew ∧ wpT t (.he C) w.drew
  | .eff t, .he C, w => wpT t (.ef C) w
  | .back t, .ef C, w => C w ∧ wpT t (.he C) w
  | .both t e, .he C, w => wpT t (.he C) w ∧ wpT e (.he C) w
  | .triv, .he _, _ => True
  | .undrawn t, .he _, w => wpT t .pl w
  | .mark t, .pl, w => wpT t .pl w
  | _, _, _ => False
end
/-- The modes in which operations are carried out one by one. -/
class inductive Md.Runs : Md → Prop
  | pl : Md.Runs .pl
  | ef (C : World → Prop) : Md.Runs (.ef C)
instance : Md.Runs .pl := .pl
instance (C : World → Prop) : Md.Runs (.ef C) := .ef C
/-- What is asked of a call's ending. -/
def callPost (P : Program) (R : Ending → World → Prop) (Q : Exit → List (Tmp × Value) → World → Prop) (s : Shape) (k : s.Vars → T) (m : Md) : Ending → World → Prop
  | .returned v, w' => ∃ x, v = s.val x ∧ wpT P R Q (k x) m w'
  | _, _ => False
def yldPost (P : Program) (R : Ending → World → Prop) (Q : Exit → List (Tmp × Value) → World → Prop) (k : Bool → T) : Ending → World → Prop
  | .returned (.bool b), w' => wpT P R Q (k b) .pl w'
  | _, _ => False
def callpPost (P : Program) (R : Ending → World → Prop) (Q : Exit → List (Tmp × Value) → World → Prop) (s : Shape) (k : s.Vars → T) (kp : List PanicEntry → T) (m : Md) : Ending → World → Prop
  | .returned v, w' => ∃ x, v = s.val x ∧ wpT P R Q (k x) m w'
  | .panicked ch, w' => wpT P R Q (kp ch) m w'
  | .outgrown, _ => False
def callxPost (P : Program) (R : Ending → World → Prop) (Q : Exit → List (Tmp × Value) → World → Prop) (kp : List PanicEntry → T) (m : Md) : Ending → World → Prop
  | .panicked ch, w' => wpT P R Q (kp ch) m w'
  | _, _ => False
/-- What is asked behind a loop. -/
def loopPost (P : Program) (R : Ending → World → Prop) (Q : Exit → List (Tmp × Value) → World → Prop) (W : List Tmp) (g : Nat → Value) (n : Nat) (fx : List (Tmp × Value)) (mx mr : List (Tmp × Comp)) (x : Nat) (kx : MVars mx → (Nat → Value) → T) (kr : MVars mr → (Nat → Value) → T) : Exit → Act → World → Prop
  | .exit i, a', w' => i = x ∧ ∃ v g', (∀ j, j ∉ W → g' j = g j) ∧ a' = mkA n (fx ++ mvals mx v) g' ∧ wpT P R Q (kx v g') .pl w'
  | .ret, a', w' => ∃ v g', (∀ j, j ∉ W → g' j = g j) ∧ a' = mkA n (fx ++ mvals mr v) g' ∧ wpT P R Q (kr v g') .pl w'
  | .panic ch, a', w' => a'.defers = [] ∧ R (.panicked ch) w'
  | _, _, _ => False
def cutPost (P : Program) (R : Ending → World → Prop) (Q : Exit → List (Tmp × Value) → World → Prop) (W : List Tmp) (g : Nat → Value) (n : Nat) (fx : List (Tmp × Value)) (mx : List (Tmp × Comp)) (k : MVars mx → (Nat → Value) → T) : Exit → Act → World → Prop
  | .normal, a', w' => ∃ v g', (∀ j, j ∉ W → g' j = g j) ∧ a' = mkA n (fx ++ mvals mx v) g' ∧ wpT P R Q (k v g') .pl w'
  | .panic ch, a', w' => a'.defers = [] ∧ R (.panicked ch) w'
  | _, _, _ => False
def cutrPost (P : Program) (R : Ending → World → Prop) (Q : Exit → List (Tmp × Value) → World → Prop) (W : List Tmp) (g : Nat → Value) (n : Nat) (fx : List (Tmp × Value)) (mx mr : List (Tmp × Comp)) (k : MVars mx → (Nat → Value) → T) (kr : MVars mr → (Nat → Value) → T) : Exit → Act → World → Prop
  | .normal, a', w' => ∃ v g', (∀ j, j ∉ W → g' j = g j) ∧ a' = mkA n (fx ++ mvals mx v) g' ∧ wpT P R Q (k v g') .pl w'
  | .ret, a', w' => ∃ v g', (∀ j, j ∉ W → g' j = g j) ∧ a' = mkA n (fx ++ mvals mr v) g' ∧ wpT P R Q (kr v g') .pl w'
  | .panic ch, a', w' => a'.defers = [] ∧ R (.panicked ch) w'
  | _, _, _ => False
def scpPost (P : Program) (R : Ending → World → Prop) (Q : Exit → List (Tmp × Value) → World → Prop) (W : List Tmp) (g : Nat → Value) (n : Nat) (fx : List (Tmp × Value)) (mr : List (Tmp × Comp)) (kr : MVars mr → (Nat → Value) → T) : Exit → Act → World → Prop
  | .ret, a', w' => ∃ v g', (∀ j, j ∉ W → g' j = g j) ∧ a' = mkA n (fx ++ mvals mr v) g' ∧ wpT P R Q (kr v g') .pl w'
  | .panic ch, a', w' => a'.defers = [] ∧ R (.panicked ch) w'
  | _, _, _ => False
def loopgPost (P : Program) (R : Ending → World → Prop) (Q : Exit → List (Tmp × Value) → World → Prop) (W : List Tmp) (g : Nat → Value) (n : Nat) (fx : List (Tmp × Value)) (mx mg : List (Tmp × Comp)) (x l : Nat) (kx : MVars mx → (Nat → Value) → T) (kg : MVars mg → (Nat → Value) → T) : Exit → Act → World → Prop
  | .exit i, a', w' => i = x ∧ ∃ v g', (∀ j, j ∉ W → g' j = g j) ∧ a' = mkA n (fx ++ mvals mx v) g' ∧ wpT P R Q (kx v g') .pl w'
  | .goto i, a', w' => i = l ∧ ∃ v g', (∀ j, j ∉ W → g' j = g j) ∧ a' = mkA n (fx ++ mvals mg v) g' ∧ wpT P R Q (kg v g') .pl w'
  | .panic ch, a', w' => a'.defers = [] ∧ R (.panicked ch) w'
  | _, _, _ => False
def rfdPost (P : Program) (R : Ending → World → Prop) (Q : Exit → List (Tmp × Value) → World → Prop) (g : Nat → Value) (n : Nat) (fx : List (Tmp × Value)) (ds : List Deferred) (k kr : Nat → T) : Exit → Act → World → Prop
  | .normal, a', w' => ∃ D, a' = mkD n fx g (collD D :: ds) ∧ wpT P R Q (k D) .pl w'
  | .ret, a', w' => ∃ D, a' = mkD n fx g (collD D :: ds) ∧ wpT P R Q (kr D) .pl w'
  | _, _, _ => False
def looprPost (P : Program) (R : Ending → World → Prop) (Q : Exit → List (Tmp × Value) → World → Prop) (W : List Tmp) (g : Nat → Value) (n : Nat) (fx : List (Tmp × Value)) (mx mr : List (Tmp × Comp)) (x : Nat) (kx : MVars mx → (Nat → Value) → T) (kr : MVars mr → (Nat → Value) → T) : Exit → Act → World → Prop
  | .exit i, a', w' => i = x ∧ ∃ v g', (∀ j, j ∉ W → g' j = g j) ∧ a' = mkA n (fx ++ mvals mx v) g' ∧ wpT P R Q (kx v g') .pl w'
  | .ret, a', w' => ∃ v g', (∀ j, j ∉ W → g' j = g j) ∧ a' = mkA n (fx ++ mvals mr v) g' ∧ wpT P R Q (kr v g') .pl w'
  | _, _, _ => False
def loopdPost (P : Program) (R : Ending → World → Prop) (Q : Exit → List (Tmp × Value) → World → Prop) (W : List Tmp) (g : Nat → Value) (n : Nat) (fx : List (Tmp × Value)) (mx mr : List (Tmp × Comp)) (x : Nat) (kx : MVars mx → (Nat → Value) → List Nat → T) (kr : MVars mr → (Nat → Value) → List Nat → T) : Exit → Act → World → Prop
  | .exit i, a', w' => i = x ∧ ∃ v g' Ds, (∀ j, j ∉ W → g' j = g j) ∧ a' = mkD n (fx ++ mvals mx v) g' (Ds.map collD) ∧ wpT P R Q (kx v g' Ds) .pl w'
  | .ret, a', w' => ∃ v g' Ds, (∀ j, j ∉ W → g' j = g j) ∧ a' = mkD n (fx ++ mvals mr v) g' (Ds.map collD) ∧ wpT P R Q (kr v g' Ds) .pl w'
  | .panic ch, a', w' => a'.defers = [] ∧ R (.panicked ch) w'
  | _, _, _ => False
section
variable (P : Program) (R : Ending → World → Prop) (Q : Exit → List (Tmp × Value) → World → Prop)
theorem wpT_rfd {c : Code} {n : Nat} {fx : List (Tmp × Value)} {ds : List Deferred} {k kr : Nat → T} {w : World} :
    wpT P R Q (.rfd c n fx ds k kr) .pl w = ∀ g, c.wp P (rfdPost P R Q g n fx ds k kr) (mkD n fx g ds) w := by
  simp only [wpT]
  refine forall_congr fun g => ?_
  congr 1
  funext e a' w'
  cases e <;> rfl
theorem wpT_loopr {l0 : Nat} {c : Code} {n : Nat} {fx L : List (Tmp × Value)} {mx mr : List (Tmp × Comp)} {x : Nat} {kx : MVars mx → (Nat → Value) → T} {kr : MVars mr → (Nat → Value) → T} {w : World} :
    wpT P R Q (.loopr l0 c n fx L mx mr x kx kr) .pl w = ∀ g, (Code.loop c).wpIn (Fence.wide.inRound l0) 0 P (looprPost P R Q (wr c) g n fx mx mr x kx kr) (mkA n (fx ++ L) g) w := by
  simp only [wpT]
  refine forall_congr fun g => ?_
  congr 1
  funext e a' w'
  cases e <;> rfl
theorem wpT_loopd {c : Code} {n : Nat} {fx L : List (Tmp × Value)} {mx mr : List (Tmp × Comp)} {x : Nat} {kx : MVars mx → (Nat → Value) → List Nat → T} {kr : MVars mr → (Nat → Value) → List Nat → T} {w : World} :
    wpT P R Q (.loopd c n fx L mx mr x kx kr) .pl w = ∀ g, (Code.loop c).wp P (loopdPost P R Q (wr c) g n fx mx mr x kx kr) (mkA n (fx ++ L) g) w := by
  simp only [wpT]
  refine forall_congr fun g => ?_
  congr 1
  funext e a' w'
  cases e <;> rfl
theorem wpT_loopg {c : Code} {n : Nat} {fx L : List (Tmp × Value)} {mx mg : List (Tmp × Comp)} {x l : Nat} {kx : MVars mx → (Nat → Value) → T} {kg : MVars mg → (Nat → Value) → T} {w : World} :
    wpT P R Q (.loopg c n fx L mx mg x l kx kg) .pl w = ∀ g, (Code.loop c).wp P (loopgPost P R Q (wr c) g n fx mx mg x l kx kg) (mkA n (fx ++ L) g) w := by
  simp only [wpT]
  refine forall_congr fun g => ?_
  congr 1
  funext e a' w'
  cases e <;> rfl
theorem wpT_scp {c : Code} {n : Nat} {fx L : List (Tmp × Value)} {mr : List (Tmp × Comp)} {kr : MVars mr → (Nat → Value) → T} {w : World} :
    wpT P R Q (.scp c n fx L mr kr) .pl w = ∀ g, (Code.scope c).wp P (scpPost P R Q (wr c) g n fx mr kr) (mkA n (fx ++ L) g) w := by
  simp only [wpT]
  refine forall_congr fun g => ?_
  congr 1
  funext e a' w'
  cases e <;> rfl
theorem wpT_cutr {c : Code} {n : Nat} {fx L : List (Tmp × Value)} {mx mr : List (Tmp × Comp)} {k : MVars mx → (Nat → Value) → T} {kr : MVars mr → (Nat → Value) → T} {w : World} :
    wpT P R Q (.cutr c n fx L mx mr k kr) .pl w = ∀ g, c.wp P (cutrPost P R Q (wr c) g n fx mx mr k kr) (mkA n (fx ++ L) g) w := by
  simp only [wpT]
  refine forall_congr fun g => ?_
  congr 1
  funext e a' w'
  cases e <;> rfl
theorem wpT_call {f : FuncId} {args : Array Value} {s : Shape} {k : s.Vars → T} {m : Md} [hm : m.Runs] {w : World} :
    wpT P R Q (.call f args s k) m w = Calls P f args w (callPost P R Q s k m) := by
  cases hm <;> (simp only [wpT]; congr 1; funext e w'; cases e <;> rfl)
theorem wpT_inv {f : FuncId} {args : Array Value} {s : Shape} {k : s.Vars → T} {w : World} :
    wpT P R Q (.inv f args s k) .pl w = ((∀ w, (callFunc f args).run P w = .ok (.enter f args) w) ∧ Calls P f args w (callPost P R Q s k .pl)) := by
  simp only [wpT]; congr 2; funext e w'; cases e <;> rfl
theorem wpT_yld {l : Nat} {args : Array Value} {k : Bool → T} {w : World} :
    wpT P R Q (.yld l args k) .pl w = YieldAt Fence.wide 0 P l args w (yldPost P R Q k) := by
  simp only [wpT]; congr 1; funext e w'; cases e with
  | returned v => cases v <;> rfl
  | _ => rfl
theorem wpT_callp {f : FuncId} {args : Array Value} {s : Shape} {k : s.Vars → T} {kp : List PanicEntry → T} {m : Md} [hm : m.Runs] {w : World} :
    wpT P R Q (.callp f args s k kp) m w = Calls P f args w (callpPost P R Q s k kp m) := by
  cases hm <;> (simp only [wpT]; congr 1; funext e w'; cases e <;> rfl)
theorem wpT_callx {f : FuncId} {args : Array Value} {kp : List PanicEntry → T} {m : Md} [hm : m.Runs] {w : World} :
    wpT P R Q (.callx f args kp) m w = Calls P f args w (callxPost P R Q kp m) := by
  cases hm <;> (simp only [wpT]; congr 1; funext e w'; cases e <;> rfl)
theorem wpT_loop {c : Code} {n : Nat} {fx L : List (Tmp × Value)} {mx mr : List (Tmp × Comp)} {x : Nat} {kx : MVars mx → (Nat → Value) → T} {kr : MVars mr → (Nat → Value) → T} {w : World} :
    wpT P R Q (.loop c n fx L mx mr x kx kr) .pl w = ∀ g, (Code.loop c).wp P (loopPost P R Q (wr c) g n fx mx mr x kx kr) (mkA n (fx ++ L) g) w := by
  simp only [wpT]
  refine forall_congr fun g => ?_
  congr 1
  funext e a' w'
  cases e <;> rfl
theorem wpT_cut {c : Code} {n : Nat} {fx : List (Tmp × Value)} {mx : List (Tmp × Comp)} {k : MVars mx → (Nat → Value) → T} {w : World} :
    wpT P R Q (.cut c n fx mx k) .pl w = ∀ g, c.wp P (cutPost P R Q (wr c) g n fx mx k) (mkA n fx g) w := by
  simp only [wpT]
  refine forall_congr fun g => ?_
  congr 1
  funext e a' w'
  cases e <;> rfl
end
inductive Script where
  | nil
  | lit (s : Script)
  | sym (s1 s2 : Script)
  | ld (l : Leaf) (s : Script)
  | cl (sh : Shape) (s : Script)
  | clp (sh : Shape) (s sp : Script)
  | rn (sh : Shape) (s : Script)
  | ac (s : Script)
  | iv (sh : Shape) (s : Script)
  | yl (s : Script)
  | rf (fx : List Tmp) (mr : List (Tmp × Comp)) (s sr : Script)
  | pt (s : Script)
  | ptn (s1 s2 : Script)
  | ix (s : Script)
  | nd (s : Script)
  | lp (x : Nat) (fx ms : List Tmp) (mx mr : List (Tmp × Comp)) (sx sr : Script)
  | ct (d : Nat) (fx : List Tmp) (mx : List (Tmp × Comp)) (s : Script)
  | cr (d : Nat) (fx L : List Tmp) (mx mr : List (Tmp × Comp)) (s sr : Script)
  | clx (sp : Script)
  | qt (s : Script)
  | nop (s : Script)
  | nx (cs : List Comp) (s1 s2 : Script)
  | hd0 (s : Script)
  | hq (i : Nat) (s : Script)
  | hl (i : Nat) (s r : Script)
  | he (i : Nat) (s : Script)
  | lpg (x l : Nat) (fx ms : List Tmp) (mx mg : List (Tmp × Comp)) (sx sg : Script)
  | gt (fx L : List Tmp) (mr : List (Tmp × Comp)) (sr : Script)
  | rfd (fx : List Tmp) (s sr : Script)
  | lpd (x : Nat) (fx ms : List Tmp) (mx mr : List (Tmp × Comp)) (sx sr : Script)
/-- Scripts for the operations that may come up. -/
def alts : Script → List (Nat × Script)
  | .hl i s r => (i, s) :: alts r
  | _ => []
def exam (s : Script) (b : Bool) (kt kf : Script → T) : T :=
  match s with
  | .lit s => match b with
    | true => kt s
    | false => kf s
  | .sym s1 s2 => .br b (kt s1) (kf s2)
  | _ => .stuck
def ofSem (P : Program) {α : Type} : Sem α → Script → (Script → α → T) → (Script → Value → T) → T
  | .pure a, s, k, _ => k s a
  | .load _ a f, .ld l s, k, kp => .load a l (fun x => ofSem P (f (l.val x)) s k kp)
  | .store _ a v f, s, k, kp => .store a v (ofSem P f s k kp)
  | .new o f, s, k, kp => .new o (fun n => ofSem P (f n) s k kp)
  | .program f, s, k, kp => ofSem P (f P) s k kp
  | .mark _ f, s, k, kp => ofSem P f s k kp
  | .halt (.panic v), s, _, kp => kp s v
  | _, _, _, _ => .stuck
/-- Only reads. -/
def rdSem (P : Program) {α : Type} : Sem α → Script → (α → T) → T
  | .pure a, _, k => k a
  | .load _ a f, .ld l s, k => .load a l (fun x => rdSem P (f (l.val x)) s k)
  | .program f, s, k => rdSem P (f P) s k
  | _, _, _ => .stuck
def setO (a : Act) (c : Operand) (v : Value) : Act :=
  match c with
  | .tmp t => a.put (some t) v
  | _ => a
def bnd (a : Act) : Option Operand → Int → Option Int
  | none, d => some d
  | some x, _ => match a.eval x with
    | .int _ n => some n
    | _ => none
def nextT (o : Oper) (a : Act) (s : Script) (k : Script → Act → T) (kp : Script → List PanicEntry → Act → T) : Next → T
  | .value v => k s (a.put o.dst v)
  | .skip => k s (a.put o.dst undef)
  | .enter f args => match s with
    | .cl sh s => .call f args sh (fun x => k s (a.put o.dst (sh.val x)))
    | .clp sh s sp => .callp f args sh (fun x => k s (a.put o.dst (sh.val x))) (fun ch => kp sp ch a)
    | .clx sp => .callx f args (fun ch => kp sp ch a)
    | _ => .stuck
  | .defer d => .mark <| k s ({ a with defers := d :: a.defers }.put o.dst undef)
  | _ => .stuck
def opT (P : Program) (o : Oper) (a : Act) (s : Script) (k : Script → Act → T) (kp : Script → List PanicEntry → Act → T) : T :=
  match o.op, s with
  | .pick c x y, s => match a.eval c with
    | .bool b => exam s b (fun s => k s ((setO a c (.bool true)).put o.dst (a.eval x))) (fun s => k s ((setO a c (.bool false)).put o.dst (a.eval y)))
    | _ => .stuck
  | .indexAddr t x i, .ix s => match P.underlying t, a.eval x, a.eval i with
    | some (.slice e), .slice base len _, .int _ i => match P.info? e with
      | some inf => .idx base i len inf.size (fun ad => k s (a.put o.dst (.pointer (some ad))))
      | none => .stuck
    | some (.array len e), .pointer base, .int _ i => match P.info? e with
      | some inf => .idx base i len inf.size (fun ad => k s (a.put o.dst (.pointer (some ad))))
      | none => .stuck
    | _, _, _ => .stuck
  | .index t x i, .ix s => match P.underlying t, a.eval x, a.eval i with
    | some .string, .string b, .int _ i => .bidx b i (fun n => k s (a.put o.dst (.int .u8 n)))
    | _, _, _ => .stuck
  | .nilCheck x, .pt s => match a.eval x with
    | .pointer p => .ptr p (fun ad => k s (a.put o.dst (.pointer (some ad)))) .stuck
    | _ => .stuck
  | .slice t x lo hi none, .nd s => match P.underlying t, a.eval x with
    | some .string, .string b => match bnd a lo 0, bnd a hi b.size with
      | some l, some h => .need (decide (0 ≤ l ∧ l ≤ h ∧ h ≤ (b.size : Int))) (k s (a.put o.dst (.string (b.extract l.toNat h.toNat))))
      | _, _ => .stuck
    | some (.slice e), .slice base len cap => match bnd a lo 0, bnd a hi len, P.info? e with
      | some l, some h, some inf => .need (decide (0 ≤ l ∧ l ≤ h ∧ h ≤ (cap : Int))) (k s (a.put o.dst (.slice (if cap = l.toNat then base else base.map (·.add (l.toNat * inf.size))) (h.toNat - l.toNat) (cap - l.toNat))))
      | _, _, _ => .stuck
    | _, _ => .stuck
  | .binOp .add _ x y _, .nd s => match a.eval x, a.eval y with
    | .string p, .string q => .need (decide (p.size + q.size ≤ 9223372036854775807)) (k s (a.put o.dst (.string (p ++ q))))
    | _, _ => .stuck
  | .call c, .iv sh s => match c.callee with
    | .value x => match a.eval x with
      | .func (.func f) first cap => .inv f (first ++ c.args.map a.eval ++ cap) sh (fun x => k s (a.put o.dst (sh.val x)))
      | _ => .stuck
    | _ => .stuck
  | .call c, .yl s => match c.callee with
    | .value x => match a.eval x with
      | .func (.yield l) first _ => .yld l (first ++ c.args.map a.eval) (fun b => k s (a.put o.dst (.bool b)))
      | _ => .stuck
    | _ => .stuck
  | _, .rn sh s => .run (execOp a.eval o) sh (fun x => k s (a.put o.dst (sh.val x)))
  | _, .ac s => .act (execOp a.eval o) (k s (a.put o.dst undef))
  | _, .nx cs s1 s2 => .nxt (execOp a.eval o) cs (fun x => k s1 (a.put o.dst (.tuple (.bool true :: cvals cs x).toArray))) (k s2 (a.put o.dst (.tuple #[.bool false])))
  | _, .nop s => ofSem P (execOp a.eval o) s (fun s n => nextT o a s k kp n) (fun s v => kp s [{ v, recovered := false }] a)
  | _, s => ofSem P (execOp a.eval o) s (fun s n => nextT o a s k kp n) (fun s v => kp s [{ v, recovered := false }] a)
def opsT (P : Program) (ops : Array Oper) : List Oper → Act → Script → (Script → Act → T) → (Script → List PanicEntry → Act → T) → T
  | [], a, s, k, _ => k s a
  | o :: rest, a, s, k, kp => match o.guard with
    | none => opT P o a s (fun s a => opsT P ops rest a s k kp) kp
    | some (j, want) => match yielded ops a.tmps j with
      | some b => exam s b
          (fun s => let a := a.put ((ops[j]?).bind (·.dst)) (.bool true)
            match want with
            | true => opT P o a s (fun s a => opsT P ops rest a s k kp) kp
            | false => opsT P ops rest (a.put o.dst undef) s k kp)
          (fun s => let a := a.put ((ops[j]?).bind (·.dst)) (.bool false)
            match want with
            | true => opsT P ops rest (a.put o.dst undef) s k kp
            | false => opT P o a s (fun s a => opsT P ops rest a s k kp) kp)
      | none => opsT P ops rest (a.put o.dst undef) s k kp
/-- What answers a value where it answers. -/
def noSkip : Op → Bool
  | .ready _ => false
  | .store _ _ _ => false
  | .mapUpdate _ _ _ _ => false
  | .insert _ _ _ _ => false
  | .entryStore _ _ _ _ => false
  | .go _ => false
  | .defer _ => false
  | .send _ _ => false
  | .recv _ _ _ => false
  | .select _ _ => false
  | .panic _ => false
  | .call c => match c.callee with
    | .builtin .len => true
    | .builtin .cap => true
    | _ => false
  | _ => true
/-- A region that draws its order, C kept: what only reads first; then whatever may come up. -/
def heldT (P : Program) (ops : Array Oper) (k : Script → Act → T) : Nat → Array Bool → Act → Script → T
  | 0, listed, a, s => match (Region.ready .any ops listed).isEmpty with
    | true => .undrawn (k s a)
    | false => .stuck
  | fuel + 1, listed, a, s => match s with
    | .hq i s => match ops[i]?, Region.free .any ops listed i && (Region.ready .any ops listed).contains i with
      | some o, true => match noSkip o.op with
        | true => opsT P ops [o] a s (fun s a => heldT P ops k fuel (listed.setIfInBounds i true) a s) (fun _ _ _ => .stuck)
        | false => .stuck
      | _, _ => .stuck
    | .he i s => match ops[i]?, Region.ready .any ops listed == [i] with
      | some o, true => .eff (opsT P ops [o] a s (fun s a => .back (heldT P ops k fuel (listed.setIfInBounds i true) a s)) (fun _ ch a => match a.defers with
        | [] => .done (.panicked ch)
        | _ => .stuck))
      | _, _ => .stuck
    | .hl i s r => match Region.ready .any ops listed == (alts (.hl i s r)).map (·.1) with
      | true => (alts (.hl i s r)).foldr (fun p t => .both (match ops[p.1]? with
        | some o => .eff (opsT P ops [o] a p.2 (fun s a => .back (heldT P ops k fuel (listed.setIfInBounds p.1 true) a s)) (fun _ ch a => match a.defers with
          | [] => .done (.panicked ch)
          | _ => .stuck))
        | none => .stuck) t) .triv
      | false => .stuck
    | _ => .stuck
def codeT (P : Program) : Code → Act → Script → (Script → Exit → Act → T) → T
  | .skip, a, s, k => k s .normal a
  | .region _ ops false, a, s, k => opsT P ops ops.toList a s (fun s a => k s .normal a) (fun s ch a => k s (.panic ch) a)
  | .region _ ops true, a, s, k => match s with
    | .qt s => match Region.lexB .any ops with
      | true => .drawn (opsT P ops ops.toList a s (fun s a => .undrawn (k s .normal a)) (fun _ _ _ => .stuck))
      | false => .stuck
    | .hd0 s => match Region.noSelect ops with
      | true => .hdrawn (heldT P ops (fun s a => k s .normal a) ops.size (Array.replicate ops.size false) a s)
      | false => .stuck
    | _ => .stuck
  | .seq x y, a, s, k => match s with
    | .ct (d + 1) fx mx s => codeT P x a (.ct d fx mx s) (fun s e a => match e with
      | .normal => codeT P y a s k
      | .exit i => k s (.exit i) a
      | .goto l => k s (.goto l) a
      | .ret => k s .ret a
      | .panic ch => k s (.panic ch) a
      | .outgrown => .stuck)
    | .cr (d + 1) fx L mx mr s sr => codeT P x a (.cr d fx L mx mr s sr) (fun s e a => match e with
      | .normal => codeT P y a s k
      | .exit i => k s (.exit i) a
      | .goto l => k s (.goto l) a
      | .ret => k s .ret a
      | .panic ch => k s (.panic ch) a
      | .outgrown => .stuck)
    | .cr 0 fx L mx mr s sr => match a.defers, within mx x && within mr x with
      | [], true => .cutr x a.tmps.size (lives a fx) (lives a L) mx mr (fun v g => codeT P y (mkA a.tmps.size (lives a fx ++ mvals mx v) g) s k) (match hasRet x with
        | true => fun v g => k sr .ret (mkA a.tmps.size (lives a fx ++ mvals mr v) g)
        | false => fun _ _ => .stuck)
      | _, _ => .stuck
    | .ct 0 fx mx s => match a.defers, within mx x with
      | [], true => .cut x a.tmps.size (lives a fx) mx (fun v g => codeT P y (mkA a.tmps.size (lives a fx ++ mvals mx v) g) s k)
      | _, _ => .stuck
    | s => codeT P x a s (fun s e a => match e with
    | .normal => codeT P y a s k
    | .exit i => k s (.exit i) a
    | .goto l => k s (.goto l) a
    | .ret => k s .ret a
    | .panic ch => k s (.panic ch) a
    | .outgrown => .stuck)
  | .cond c x y, a, s, k => match a.eval c with
    | .bool b => exam s b (fun s => codeT P x (setO a c (.bool true)) s k) (fun s => codeT P y (setO a c (.bool false)) s k)
    | _ => .stuck
  | .block id c, a, s, k => codeT P c a s (fun s e a => match e with
    | .exit i => match Nat.beq i id with
      | true => k s .normal a
      | false => k s (.exit i) a
    | .normal => k s .normal a
    | .goto l => k s (.goto l) a
    | .ret => k s .ret a
    | .panic ch => k s (.panic ch) a
    | .outgrown => .stuck)
  | .loop c, a, s, k => match s with
    | .lp x fx ms mx mr sx sr => match a.defers, within mx c && within mr c with
      | [], true => .loop c a.tmps.size (lives a fx) (lives a ms) mx mr x (fun v g => k sx (.exit x) (mkA a.tmps.size (lives a fx ++ mvals mx v) g)) (match hasRet c with
        | true => fun v g => k sr .ret (mkA a.tmps.size (lives a fx ++ mvals mr v) g)
        | false => fun _ _ => .stuck)
      | _, _ => .stuck
    | .lpg x l fx ms mx mg sx sg => match a.defers, within mx c && within mg c with
      | [], true => .loopg c a.tmps.size (lives a fx) (lives a ms) mx mg x l (fun v g => k sx (.exit x) (mkA a.tmps.size (lives a fx ++ mvals mx v) g)) (fun v g => k sg (.goto l) (mkA a.tmps.size (lives a fx ++ mvals mg v) g))
      | _, _ => .stuck
    | .lpd x fx ms mx mr sx sr => match a.defers, within mx c && within mr c with
      | [], true => .loopd c a.tmps.size (lives a fx) (lives a ms) mx mr x (fun v g Ds => k sx (.exit x) (mkD a.tmps.size (lives a fx ++ mvals mx v) g (Ds.map collD))) (fun v g Ds => k sr .ret (mkD a.tmps.size (lives a fx ++ mvals mr v) g (Ds.map collD)))
      | _, _ => .stuck
    | _ => .stuck
  | .scope c, a, s, k => match s with
    | .gt fx L mr sr => match a.defers, within mr c with
      | [], true => .scp c a.tmps.size (lives a fx) (lives a L) mr (fun v g => k sr .ret (mkA a.tmps.size (lives a fx ++ mvals mr v) g))
      | _, _ => .stuck
    | s => codeT P c a s (fun s e a => match e with
      | .goto _ => .stuck
      | .outgrown => .stuck
      | .normal => k s .normal a
      | .exit i => k s (.exit i) a
      | .ret => k s .ret a
      | .panic ch => k s (.panic ch) a)
  | .rangeFunc f ps x y, a, s, k => match s with
    | .rf fx mr s sr => match a.defers, within [] (.rangeFunc f ps x y) && within mr (.rangeFunc f ps x y) with
      | [], true => .cutr (.rangeFunc f ps x y) a.tmps.size (lives a fx) (lives a []) [] mr (fun v g => k s .normal (mkA a.tmps.size (lives a fx ++ mvals [] v) g)) (fun v g => k sr .ret (mkA a.tmps.size (lives a fx ++ mvals mr v) g))
      | _, _ => .stuck
    | .rfd fx s sr => .rfd (.rangeFunc f ps x y) a.tmps.size (lives a fx) a.defers (fun D => k s .normal { a with defers := collD D :: a.defers }) (fun D => k sr .ret { a with defers := collD D :: a.defers })
    | _ => .stuck
  | .goto l, a, s, k => k s (.goto l) a
  | .label _, a, s, k => k s .normal a
  | .exit i, a, s, k => k s (.exit i) a
  | .ret, a, s, k => k s .ret a
  | _, _, _, _ => .stuck
def fnT (P : Program) (fn : Func) (args : Array Value) (s : Script) : T :=
  match fn.body with
  | some c => codeT P c { tmps := args ++ Array.replicate (fn.ntmps - args.size) undef, defers := [] } s (fun s e a => match e, a.defers with
    | .normal, [] => rdSem P (results fn a.tmps) s (fun v => .done (.returned v))
    | .ret, [] => rdSem P (results fn a.tmps) s (fun v => .done (.returned v))
    | .panic ch, [] => .done (.panicked ch)
    | _, _ => .stuck)
  | none => .stuck
def vNext (s : Sem Value) : Sem Next := do pure (.value (← s))
/-- A comparison, behind its guard. -/
def guarded (op : BinOp) (t : TypeId) (x y : Operand) (a b : Value) : Sem Value := do eqGuard op t x y a b; binOp op t a b
def uNext (s : Sem Unit) : Sem Next := do s; pure .skip
/-- The tree of a piece of code by itself: its leaves tell the slots of ms (where it ends normally), mx (at the exit x), mr (at a return). -/
def pieceT (P : Program) (c : Code) (n : Nat) (L : List (Tmp × Value)) (g : Nat → Value) (ms mx mr : List Tmp) (s : Script) : T :=
  codeT P c (mkA n L g) s (fun _ e a => match a.defers with
    | [] => match e with
      | .normal => .fin .normal (lives a ms)
      | .exit i => .fin (.exit i) (lives a mx)
      | .ret => .fin .ret (lives a mr)
      | .panic ch => .done (.panicked ch)
      | _ => .stuck
    | _ => .stuck)
def noDefer : Op → Bool
  | .defer _ => false
  | _ => true
/-- The tree of a piece of code within a round of a range over a function. -/
def codeR (P : Program) (l0 : Nat) : Code → Act → Script → (Script → Exit → Act → T) → T
  | .skip, a, s, k => k s .normal a
  | .region _ ops false, a, s, k => match ops.toList.all (fun o => noDefer o.op) with
    | true => opsT P ops ops.toList a s (fun s a => k s .normal a) (fun _ _ _ => .stuck)
    | false => .stuck
  | .seq x y, a, s, k => codeR P l0 x a s (fun s e a => match e with
    | .normal => codeR P l0 y a s k
    | .exit i => k s (.exit i) a
    | .ret => k s .ret a
    | _ => .stuck)
  | .cond c x y, a, s, k => match a.eval c with
    | .bool b => exam s b (fun s => codeR P l0 x (setO a c (.bool true)) s k) (fun s => codeR P l0 y (setO a c (.bool false)) s k)
    | _ => .stuck
  | .block id c, a, s, k => codeR P l0 c a s (fun s e a => match e with
    | .exit i => match Nat.beq i id with
      | true => k s .normal a
      | false => k s (.exit i) a
    | .normal => k s .normal a
    | .ret => k s .ret a
    | _ => .stuck)
  | .loop c, a, s, k => match s with
    | .lp x fx ms mx mr sx sr => match a.defers, within mx c && within mr c with
      | [], true => .loopr l0 c a.tmps.size (lives a fx) (lives a ms) mx mr x (fun v g => k sx (.exit x) (mkA a.tmps.size (lives a fx ++ mvals mx v) g)) (match hasRet c with
        | true => fun v g => k sr .ret (mkA a.tmps.size (lives a fx ++ mvals mr v) g)
        | false => fun _ _ => .stuck)
      | _, _ => .stuck
    | _ => .stuck
  | .exit i, a, s, k => k s (.exit i) a
  | .ret, a, s, k => k s .ret a
  | _, _, _, _ => .stuck
/-- As pieceT, within a round. -/
def pieceR (P : Program) (l0 : Nat) (c : Code) (n : Nat) (L : List (Tmp × Value)) (g : Nat → Value) (ms mx mr : List Tmp) (s : Script) : T :=
  codeR P l0 c (mkA n L g) s (fun _ e a => match a.defers with
    | [] => match e with
      | .normal => .fin .normal (lives a ms)
      | .exit i => .fin (.exit i) (lives a mx)
      | .ret => .fin .ret (lives a mr)
      | _ => .stuck
    | _ => .stuck)
/-- As fnT, of a function that ranges over a function: it leaves with marks. -/
def fnTM (P : Program) (fn : Func) (args : Array Value) (s : Script) : T :=
  match fn.body with
  | some c => codeT P c { tmps := args ++ Array.replicate (fn.ntmps - args.size) undef, defers := [] } s (fun s e a => match e with
    | .normal => .lvs a.defers (rdSem P (results fn a.tmps) s (fun v => .done (.returned v)))
    | .ret => .lvs a.defers (rdSem P (results fn a.tmps) s (fun v => .done (.returned v)))
    | _ => .stuck)
  | none => .stuck
/-- As pieceT, with marks. -/
def pieceD (P : Program) (c : Code) (n : Nat) (L : List (Tmp × Value)) (g : Nat → Value) (ds : List Deferred) (ms mx mr : List Tmp) (s : Script) : T :=
  codeT P c (mkD n L g ds) s (fun _ e a => match e with
    | .normal => .finD .normal (lives a ms) a.defers
    | .exit i => .finD (.exit i) (lives a mx) a.defers
    | .ret => .finD .ret (lives a mr) a.defers
    | _ => .stuck)
/-- As pieceT, with jumps: mg's slots. -/
def pieceG (P : Program) (c : Code) (n : Nat) (L : List (Tmp × Value)) (g : Nat → Value) (ms mx mr mg : List Tmp) (s : Script) : T :=
  codeT P c (mkA n L g) s (fun _ e a => match a.defers with
    | [] => match e with
      | .normal => .fin .normal (lives a ms)
      | .exit i => .fin (.exit i) (lives a mx)
      | .ret => .fin .ret (lives a mr)
      | .goto l => .fin (.goto l) (lives a mg)
      | .panic ch => .done (.panicked ch)
      | _ => .stuck
    | _ => .stuck)
/-- What stands behind a label. -/
def from_ (c : Code) (l : Nat) : Code := (findLabel c l).getD .skip
/-- A piece of a code, by the way to it. -/
def nav : Code → List Nat → Code
  | c, [] => c
  | .seq x y, i :: p => match i with
    | 0 => nav x p
    | _ => nav y p
  | .cond _ x y, i :: p => match i with
    | 0 => nav x p
    | _ => nav y p
  | .block _ c, _ :: p => nav c p
  | .loop c, _ :: p => nav c p
  | .scope c, _ :: p => nav c p
  | c, _ => c
def at_ (fn : Func) (p : List Nat) : Code := nav (fn.body.getD .skip) p
/-! ### Soundness -/
section
variable {P : Program} {R : Ending → World → Prop} {Q : Exit → List (Tmp × Value) → World → Prop}
theorem exam_sound {s : Script} {b : Bool} {kt kf : Script → T} {m : Md} {w : World} (h : wpT P R Q (exam s b kt kf) m w) :
    (b = true → ∃ s, wpT P R Q (kt s) m w) ∧ (b = false → ∃ s, wpT P R Q (kf s) m w) := by
  unfold exam at h
  split at h
  · rename_i s
    cases b
    · exact ⟨fun h => absurd h (by simp), fun _ => ⟨s, h⟩⟩
    · exact ⟨fun _ => ⟨s, h⟩, fun h => absurd h (by simp)⟩
  · rename_i s1 s2
    exact ⟨fun hb => ⟨s1, h.1 hb⟩, fun hb => ⟨s2, h.2 hb⟩⟩
  · cases m <;> exact h.elim
theorem told_run {md : Md} [hm : md.Runs] {w : World} {p : World → Prop} (h : md.told w p) : p w := by cases hm <;> exact h
theorem store_run {md : Md} [hm : md.Runs] {w : World} {a : Addr} {v : Value} {k : T} (h : wpT P R Q (.store a v k) md w) : v.oneCell' = true ∧ (∃ u, w.cell? a = some u) ∧ w.frozen? a = false ∧ wpT P R Q k md (w.setCell a v) := by cases hm <;> exact h
theorem new_run {md : Md} [hm : md.Runs] {w : World} {o : Obj} {k : Nat → T} (h : wpT P R Q (.new o k) md w) : wpT P R Q (k w.heap.size) md (w.alloc o) := by cases hm <;> exact h
theorem t_store {md : Md} [hm : md.Runs] {w : World} {a : Addr} {v : Value} {k : T} (h : v.oneCell' = true ∧ (∃ u, w.cell? a = some u) ∧ w.frozen? a = false ∧ wpT P R Q k md (w.setCell a v)) : wpT P R Q (.store a v k) md w := by cases hm <;> exact h
theorem t_new {md : Md} [hm : md.Runs] {w : World} {o : Obj} {k : Nat → T} (h : wpT P R Q (k w.heap.size) md (w.alloc o)) : wpT P R Q (.new o k) md w := by cases hm <;> exact h
theorem t_told {md : Md} [hm : md.Runs] {w : World} {p : World → Prop} (h : p w) : md.told w p := by cases hm <;> exact h
theorem stuck_no {md : Md} {w : World} (h : wpT P R Q .stuck md w) : False := by cases md <;> exact h
theorem ofSem_sound {α : Type} {md : Md} [hmd : md.Runs] (m : Sem α) : ∀ (s : Script) (k : Script → α → T) (kp : Script → Value → T) (w : World), wpT P R Q (ofSem P m s k kp) md w →
    (∃ x s' w', m.run P w = .ok x w' ∧ wpT P R Q (k s' x) md w') ∨ (∃ v s' w', m.run P w = .halt (.panic v) w' ∧ wpT P R Q (kp s' v) md w') := by
  induction m with
  | pure a => intro s k kp w h; exact .inl ⟨a, s, w, rfl, h⟩
  | load md a f ih =>
    intro s k kp w h
    cases s <;> try exact (stuck_no h).elim
    rename_i l s
    obtain ⟨x, hc, h⟩ := h
    simp only [Sem.run, told_run hc]
    exact ih _ _ _ _ _ h
  | store md a v f ih =>
    intro s k kp w h
    obtain ⟨h1, ⟨u, hu⟩, h3, h⟩ := store_run h
    cases v <;> first | (simp [Value.oneCell'] at h1; done) | (simp only [Sem.run, hu, h3]; exact ih _ _ _ _ h)
  | new o f ih => intro s k kp w h; exact ih _ _ _ _ _ (new_run h)
  | program f ih => intro s k kp w h; exact ih _ _ _ _ _ h
  | mark mk f ih => intro s k kp w h; exact ih _ _ _ _ h
  | halt hh =>
    intro s k kp w h
    cases hh <;> first | exact (stuck_no h).elim | exact .inr ⟨_, s, w, rfl, h⟩
  | shape r f ih => intro s k kp w h; exact (stuck_no h).elim
  | freeze a n f ih => intro s k kp w h; exact (stuck_no h).elim
  | frozen a f ih => intro s k kp w h; exact (stuck_no h).elim
  | getObj r f ih => intro s k kp w h; exact (stuck_no h).elim
  | setObj r o f ih => intro s k kp w h; exact (stuck_no h).elim
  | choose q f ih => intro s k kp w h; exact (stuck_no h).elim
  | sys c f ih => intro s k kp w h; exact (stuck_no h).elim
/-- Inside a region that draws: one value, in every world of the class, the world left as it is. -/
theorem ofSem_quiet {α : Type} {C : World → Prop} (m : Sem α) : ∀ (s : Script) (k : Script → α → T) (w : World), wpT P R Q (ofSem P m s k (fun _ _ => .stuck)) (.qu C) w →
    ∃ x s', (∀ w, C w → m.run P w = .ok x w) ∧ wpT P R Q (k s' x) (.qu C) w := by
  induction m with
  | pure a => intro s k w h; exact ⟨a, s, fun _ _ => rfl, h⟩
  | load md a f ih =>
    intro s k w h
    cases s <;> try exact h.elim
    rename_i l s
    obtain ⟨x, hc, h⟩ := h
    obtain ⟨y, s', h1, h2⟩ := ih _ _ _ _ h
    exact ⟨y, s', fun w hw => by simp only [Sem.run, hc w hw]; exact h1 w hw, h2⟩
  | store md a v f ih => intro s k w h; exact h.elim
  | new o f ih => intro s k w h; exact h.elim
  | program f ih =>
    intro s k w h
    obtain ⟨y, s', h1, h2⟩ := ih _ _ _ _ h
    exact ⟨y, s', fun w hw => h1 w hw, h2⟩
  | mark mk f ih =>
    intro s k w h
    obtain ⟨y, s', h1, h2⟩ := ih _ _ _ h
    exact ⟨y, s', fun w hw => h1 w hw, h2⟩
  | halt hh => intro s k w h; cases hh <;> exact h.elim
  | shape r f ih => intro s k w h; exact h.elim
  | freeze a n f ih => intro s k w h; exact h.elim
  | frozen a f ih => intro s k w h; exact h.elim
  | getObj r f ih => intro s k w h; exact h.elim
  | setObj r o f ih => intro s k w h; exact h.elim
  | choose q f ih => intro s k w h; exact h.elim
  | sys c f ih => intro s k w h; exact h.elim
theorem ofSem_held {α : Type} {C : World → Prop} (m : Sem α) : ∀ (s : Script) (k : Script → α → T) (w : World), wpT P R Q (ofSem P m s k (fun _ _ => .stuck)) (.he C) w →
    ∃ x s', (∀ w, C w → m.run P w = .ok x w) ∧ wpT P R Q (k s' x) (.he C) w := by
  induction m with
  | pure a => intro s k w h; exact ⟨a, s, fun _ _ => rfl, h⟩
  | load md a f ih =>
    intro s k w h
    cases s <;> try exact h.elim
    rename_i l s
    obtain ⟨x, hc, h⟩ := h
    obtain ⟨y, s', h1, h2⟩ := ih _ _ _ _ h
    exact ⟨y, s', fun w hw => by simp only [Sem.run, hc w hw]; exact h1 w hw, h2⟩
  | store md a v f ih => intro s k w h; exact h.elim
  | new o f ih => intro s k w h; exact h.elim
  | program f ih =>
    intro s k w h
    obtain ⟨y, s', h1, h2⟩ := ih _ _ _ _ h
    exact ⟨y, s', fun w hw => h1 w hw, h2⟩
  | mark mk f ih =>
    intro s k w h
    obtain ⟨y, s', h1, h2⟩ := ih _ _ _ h
    exact ⟨y, s', fun w hw => h1 w hw, h2⟩
  | halt hh => intro s k w h; cases hh <;> exact h.elim
  | shape r f ih => intro s k w h; exact h.elim
  | freeze a n f ih => intro s k w h; exact h.elim
  | frozen a f ih => intro s k w h; exact h.elim
  | getObj r f ih => intro s k w h; exact h.elim
  | setObj r o f ih => intro s k w h; exact h.elim
  | choose q f ih => intro s k w h; exact h.elim
  | sys c f ih => intro s k w h; exact h.elim
theorem rdSem_sound {α : Type} (m : Sem α) : ∀ (s : Script) (k : α → T) (w : World), wpT P R Q (rdSem P m s k) .pl w → ∃ x, m.run P w = .ok x w ∧ wpT P R Q (k x) .pl w := by
  induction m with
  | pure a => intro s k w h; exact ⟨a, rfl, h⟩
  | load md a f ih =>
    intro s k w h
    cases s <;> try exact h.elim
    rename_i l s
    obtain ⟨x, hc, h⟩ := h
    simp only [Sem.run, hc]
    exact ih _ _ _ _ h
  | program f ih => intro s k w h; exact ih _ _ _ _ h
  | store md a v f ih => intro s k w h; exact h.elim
  | new o f ih => intro s k w h; exact h.elim
  | mark mk f ih => intro s k w h; exact h.elim
  | halt hh => intro s k w h; exact h.elim
  | shape r f ih => intro s k w h; exact h.elim
  | freeze a n f ih => intro s k w h; exact h.elim
  | frozen a f ih => intro s k w h; exact h.elim
  | getObj r f ih => intro s k w h; exact h.elim
  | setObj r o f ih => intro s k w h; exact h.elim
  | choose q f ih => intro s k w h; exact h.elim
  | sys c f ih => intro s k w h; exact h.elim
theorem put_same {a : Act} {t : Tmp} {v : Value} (h : a.tmps[t]? = some v) : a.put (some t) v = a := by
  obtain ⟨hl, hv⟩ := Array.getElem?_eq_some_iff.1 h
  cases a with
  | mk tmps d =>
    simp only [Act.put, Act.mk.injEq, and_true]
    apply Array.ext
    · simp
    · intro i h1 h2
      by_cases e : t = i
      · subst e; simp [hv]
      · rw [Array.getElem_setIfInBounds h2, if_neg e]
theorem setO_same {a : Act} {c : Operand} {b : Bool} (h : a.eval c = .bool b) : setO a c (.bool b) = a := by
  cases c <;> try rfl
  rename_i t
  refine put_same ?_
  simp only [Act.eval] at h
  rw [← h, Array.getD_eq_getD_getElem?]
  cases ht : a.tmps[t]? with
  | some v => rfl
  | none => rw [Array.getD_eq_getD_getElem?, ht] at h; cases h
theorem yielded_same {ops : Array Oper} {a : Act} {j : Nat} {b : Bool} (h : yielded ops a.tmps j = some b) : a.put ((ops[j]?).bind (·.dst)) (.bool b) = a := by
  unfold yielded at h
  cases hd : (ops[j]?).bind (·.dst) with
  | none => rfl
  | some t =>
    rw [hd] at h
    simp only [Option.bind_some] at h
    split at h
    · rename_i b' hb
      injection h with h
      subst h
      exact put_same hb
    · cases h
end
end Tr
end Go.Proofs.YtkebljkdkaagfaaGreatDoor
