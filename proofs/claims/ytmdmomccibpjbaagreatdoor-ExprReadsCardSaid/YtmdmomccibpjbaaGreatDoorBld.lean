/- Worlds that differ in some blocks alone; rules for the steps of a tree; values of the package api in memory. A law's post: true, and each argument reads as it did. Base of the walks: rows of their own, regions that only read, errors. Bytes that stand somewhere. Rows of bytes: what append does with them. strings.Builder: what its methods do, block by block. -/
import Derived.Test.YtmdmomccibpjbaaGreatDoorTrS
import Derived.Below
import Derived.Laws.NewBlocks
import Derived.Laws.Strings
import Derived.Test.YtmdmomccibpjbaaGreatDoorCards
import Derived.Test.YtmdmomccibpjbaaGreatDoorTie
import Derived.WalkKit
import Derived.ProofKit
import Derived.Carry
import Derived.OpenShut
import Derived.Lay
import Derived.Deep.DeepHandedRow
import Derived.Lib.LaidTab
import Derived.Lib.LaidU8
import Derived.Test.YtmdmomccibpjbaaGreatDoorProg
import Derived.KernelRfl
import Derived.Maps.AppendAt
import Derived.Laws.OwnMore
import Derived.Laws.BytesString
import Derived.Lib.UnsafeStr
import Derived.Lib.ConvBytes
import Derived.Laws.BitsAll
import Derived.Laws.ShiftsVar
import Derived.Lib.AppendIntMem
import Derived.Lib.ItoaNum
import Derived.Lib.Builder
import Derived.Lib.AppendStr
namespace Go.Proofs.YtmdmomccibpjbaaGreatDoor
open Go Tr
open Go.RowKit (Below)
/-- From w to w': the streams stay; of w's blocks only those of S may have turned. -/
structure Ch (S : Nat → Prop) (w w' : World) : Prop where
 os : w'.os = w.os
 tape : w'.tape = w.tape
 output : w'.output = w.output
 size : w.heap.size ≤ w'.heap.size
 block : ∀ k,k < w.heap.size → ¬ S k → w'.heap[k]? = w.heap[k]?
def No : Nat → Prop := fun _ => False
namespace Ch
variable {S S' : Nat → Prop} {w w' w'' : World}
theorem refl (S : Nat → Prop) (w : World) : Ch S w w := ⟨rfl,rfl,rfl,Nat.le_refl _,fun _ _ _ => rfl⟩
theorem trans (h : Ch S w w') (k : Ch S w' w'') : Ch S w w'' :=
 ⟨k.os.trans h.os,k.tape.trans h.tape,k.output.trans h.output,Nat.le_trans h.size k.size,fun i hi hs => (k.block i (Nat.lt_of_lt_of_le hi h.size) hs).trans (h.block i hi hs)⟩
theorem mono (h : Ch S w w') (hs : ∀ k,S k → S' k) : Ch S' w w' := ⟨h.os,h.tape,h.output,h.size,fun k hk hn => h.block k hk (fun x => hn (hs k x))⟩
theorem no (h : Ch No w w') : Ch S w w' := h.mono fun _ h => h.elim
/-- What comes behind may turn blocks that are new, too. -/
theorem then_ (h : Ch S w w') (k : Ch S' w' w'') (hs : ∀ i,i < w.heap.size → S' i → S i) : Ch S w w'' :=
 ⟨k.os.trans h.os,k.tape.trans h.tape,k.output.trans h.output,Nat.le_trans h.size k.size,fun i hi hn => (k.block i (Nat.lt_of_lt_of_le hi h.size) (fun x => hn (hs i hi x))).trans (h.block i hi hn)⟩
theorem alloc (h : Ch S w w') (o : Obj) : Ch S w (w'.alloc o) :=
 ⟨h.os,h.tape,h.output,by have := h.size; simp; omega,fun k hk hn => by rw [Below.heap_alloc _ _ _ (Nat.lt_of_lt_of_le hk h.size)]; exact h.block k hk hn⟩
theorem drew (h : Ch S w w') : Ch S w w'.drew := ⟨h.os,h.tape,h.output,h.size,h.block⟩
theorem set (h : Ch S w w') {p : Addr} (hp : w.heap.size ≤ p.block ∨ S p.block) (u : Value) : Ch S w (w'.setCell p u) :=
 ⟨h.os,h.tape,h.output,by have := h.size; simpa using this,fun k hk hn => by
  rw [Below.heap_setCell _ _ _ _ (fun e => by
   subst e
   rcases hp with hp | hp
   ·omega
   ·exact hn hp)]
  exact h.block k hk hn⟩
theorem of_below (h : Below w.heap.size w w') : Ch S w w' := ⟨h.os,h.tape,h.output,h.size,fun k hk _ => h.block k hk⟩
theorem of_grown {row : Option Nat} (hg : w.grownBy w' row) (hr : ∀ k,row = some k → S k) : Ch S w w' :=
 ⟨hg.os,hg.tape,hg.output,hg.size,fun k hk hn => hg.block k hk (fun e => hn (hr k e.symm))⟩
theorem cell (h : Ch S w w') {p : Addr} (hp : p.block < w.heap.size) (hn : ¬ S p.block) : w'.cell? p = w.cell? p := World.cell?_of_block (w := w) (h.block p.block hp hn)
theorem cellv (h : Ch S w w') {p : Addr} {v : Value} (hc : w.cell? p = some v) (hn : ¬ S p.block) : w'.cell? p = some v := (h.cell (World.block_lt_of_cell? w p hc) hn).trans hc
end Ch
/-! ### A block told whole -/
/-- Block b holds just these cells; nothing of it is frozen. -/
def Blk (w : World) (b : Nat) (cs : List Value) (t : TypeId) : Prop := w.heap[b]? = some (.cells cs.toArray t (0,0))
theorem Blk.cell {w : World} {b : Nat} {cs : List Value} {t : TypeId} (h : Blk w b cs t) (i : Nat) : w.cell? ⟨b,i,none⟩ = cs[i]? := by
 unfold World.cell?
 rw [h]
 simp
theorem Blk.lt {w : World} {b : Nat} {cs : List Value} {t : TypeId} (h : Blk w b cs t) : b < w.heap.size := (Array.getElem?_eq_some_iff.1 h).1
theorem Blk.free {w : World} {b : Nat} {cs : List Value} {t : TypeId} (h : Blk w b cs t) (i : Nat) (s : Option Nat) : w.frozen? ⟨b,i,s⟩ = false := by
 unfold World.frozen?
 rw [h]
 simp
theorem Blk.ch {S : Nat → Prop} {w w' : World} {b : Nat} {cs : List Value} {t : TypeId} (h : Blk w b cs t) (hc : Ch S w w') (hn : ¬ S b) : Blk w' b cs t := (hc.block b h.lt hn).trans h
theorem blk_new (w : World) (cs : List Value) (t : TypeId) : Blk (w.alloc (.cells cs.toArray t (0,0))) w.heap.size cs t := by
 show (w.heap.push _)[w.heap.size]? = _
 simp
theorem Blk.set {w : World} {b : Nat} {cs : List Value} {t : TypeId} (h : Blk w b cs t) (i : Nat) (v : Value) : Blk (w.setCell ⟨b,i,none⟩ v) b (cs.set i v) t := by
 unfold Blk at *
 simp only [World.setCell,Array.getElem?_modify,if_true,h]
 simp
/-! ### Rules for a tree's steps -/
section
variable {P : Program} {R : Ending → World → Prop} {Q : Exit → List (Tmp × Value) → World → Prop} {w : World}
section
variable {md : Md} [hmd : md.Runs]
theorem ld_int {a : Addr} {k : IntKind} {f : Int → T} {x : Int} (h : w.cell? a = some (.int k x)) (hk : wpT P R Q (f x) md w) : wpT P R Q (.load a (.int k) f) md w := ⟨x,t_told h,hk⟩
theorem ld_str {a : Addr} {f : ByteArray → T} {x : ByteArray} (h : w.cell? a = some (.string x)) (hk : wpT P R Q (f x) md w) : wpT P R Q (.load a .str f) md w := ⟨x,t_told h,hk⟩
theorem ld_bool {a : Addr} {f : Bool → T} {x : Bool} (h : w.cell? a = some (.bool x)) (hk : wpT P R Q (f x) md w) : wpT P R Q (.load a .bool f) md w := ⟨x,t_told h,hk⟩
theorem ld_ptr {a : Addr} {f : Option Addr → T} {x : Option Addr} (h : w.cell? a = some (.pointer x)) (hk : wpT P R Q (f x) md w) : wpT P R Q (.load a .ptr f) md w := ⟨x,t_told h,hk⟩
theorem ld_sl {a : Addr} {f : Option Addr × Nat × Nat → T} {p : Option Addr} {n c : Nat} (h : w.cell? a = some (.slice p n c)) (hk : wpT P R Q (f (p,n,c)) md w) : wpT P R Q (.load a .sl f) md w := ⟨(p,n,c),t_told h,hk⟩
theorem ld_any {a : Addr} {f : Value → T} {x : Value} (h : w.cell? a = some x) (hk : wpT P R Q (f x) md w) : wpT P R Q (.load a .any f) md w := ⟨x,t_told h,hk⟩
/-- A new block: the world gets a new name. -/
theorem nw {cs : List Value} {t : TypeId} {f : Nat → T}
  (h : ∀ w1,Ch No w w1 → w1.heap.size = w.heap.size + 1 → Blk w1 w.heap.size cs t → wpT P R Q (f w.heap.size) md w1) : wpT P R Q (.new (.cells cs.toArray t (0,0)) f) md w :=
 t_new (h _ ((Ch.refl _ _).alloc _) (by simp) (blk_new w cs t))
/-- A store into a block that is told whole. -/
theorem st_blk {b i : Nat} {v : Value} {k : T} {cs : List Value} {t : TypeId} (hb : Blk w b cs t) (hi : i < cs.length) (hv : v.oneCell' = true)
  (h : ∀ w1,Ch (· = b) w w1 → w1.heap.size = w.heap.size → Blk w1 b (cs.set i v) t → wpT P R Q k md w1) : wpT P R Q (.store ⟨b,i,none⟩ v k) md w :=
 t_store ⟨hv,⟨cs[i],by rw [hb.cell]; simp [hi]⟩,hb.free _ _,h _ ((Ch.refl (· = b) w).set (p := ⟨b,i,none⟩) (.inr rfl) v) (by simp) (hb.set i v)⟩
theorem br_true {b : Bool} {t e : T} {m : Md} (hb : b = true) (h : wpT P R Q t m w) : wpT P R Q (.br b t e) m w := ⟨fun _ => h,fun h => by rw [hb] at h; cases h⟩
theorem br_false {b : Bool} {t e : T} {m : Md} (hb : b = false) (h : wpT P R Q e m w) : wpT P R Q (.br b t e) m w := ⟨fun h => (by rw [hb] at h; cases h),fun _ => h⟩
theorem br_both {b : Bool} {t e : T} {m : Md} (h1 : b = true → wpT P R Q t m w) (h2 : b = false → wpT P R Q e m w) : wpT P R Q (.br b t e) m w := ⟨h1,h2⟩
theorem ix_i {ad : Addr} {i : Int} {len size : Nat} {f : Addr → T} {m : Md} (h0 : 0 ≤ i) (h1 : i < len) (h : wpT P R Q (f (ad.add (i.toNat * size))) m w) : wpT P R Q (.idx (some ad) i len size f) m w := ⟨ad,rfl,h0,h1,h⟩
theorem cl_i {f : FuncId} {args : Array Value} {s : Shape} {k : s.Vars → T} {R' : Ending → World → Prop} (hc : Calls P f args w R') (h : ∀ e w',R' e w' → ∃ x,e = .returned (s.val x) ∧ wpT P R Q (k x) md w') : wpT P R Q (.call f args s k) md w := by
 rw [wpT_call]
 refine hc.mono fun e w' he => ?_
 obtain ⟨x,rfl,hx⟩ := h e w' he
 exact ⟨x,rfl,hx⟩
theorem bi_i {s : ByteArray} {i : Int} {f : Int → T} {m : Md} (h0 : 0 ≤ i) (h1 : i.toNat < s.size) (h : wpT P R Q (f ((s[i.toNat]'h1).toNat : Int)) m w) : wpT P R Q (.bidx s i f) m w := ⟨h0,h1,h⟩
end
/-! Inside a region that draws: what is read is read in every world of the class. -/
section
variable {C : World → Prop}
theorem lh_int {a : Addr} {k : IntKind} {f : Int → T} {x : Int} (h : ∀ w,C w → w.cell? a = some (.int k x)) (hk : wpT P R Q (f x) (.he C) w) : wpT P R Q (.load a (.int k) f) (.he C) w := ⟨x,h,hk⟩
theorem lh_str {a : Addr} {f : ByteArray → T} {x : ByteArray} (h : ∀ w,C w → w.cell? a = some (.string x)) (hk : wpT P R Q (f x) (.he C) w) : wpT P R Q (.load a .str f) (.he C) w := ⟨x,h,hk⟩
theorem lh_sl {a : Addr} {f : Option Addr × Nat × Nat → T} {p : Option Addr} {n c : Nat} (h : ∀ w,C w → w.cell? a = some (.slice p n c)) (hk : wpT P R Q (f (p,n,c)) (.he C) w) : wpT P R Q (.load a .sl f) (.he C) w := ⟨(p,n,c),h,hk⟩
theorem bk {k : T} (hC : C w) (hk : wpT P R Q k (.he C) w) : wpT P R Q (.back k) (.ef C) w := ⟨hC,hk⟩
end
end
/-! ### The blocks that a call has made -/
namespace Ctx
variable {w0 w w' : World} {L L' : List (Nat × List Value × TypeId)}
end Ctx
section
variable {P : Program} {R : Ending → World → Prop} {Q : Exit → List (Tmp × Value) → World → Prop} {w0 w : World} {L L' : List (Nat × List Value × TypeId)} {md : Md} [hmd : md.Runs]
end
/-! ### api.Value -/
inductive VT where
 | mk (kind int : Int) (text : ByteArray) (items : List VT)
namespace VT
def kind : VT → Int | .mk k _ _ _ => k
def int : VT → Int | .mk _ i _ _ => i
def text : VT → ByteArray | .mk _ _ s _ => s
def items : VT → List VT | .mk _ _ _ l => l
end VT
/-- The four cells of an element. -/
structure CellsV (w : World) (a : Addr) (x : VT) (p : Option Addr) (n c : Nat) : Prop where
 c0 : w.cell? a = some (.int .i64 x.kind)
 c1 : w.cell? (a.add 1) = some (.int .i64 x.int)
 c2 : w.cell? (a.add 2) = some (.string x.text)
 c3 : w.cell? (a.add 3) = some (.slice p n c)
mutual
/-- What x's list of items is, in memory: n elements at p. -/
def RIt (w : World) : VT → Option Addr → Nat → Prop
 | .mk _ _ _ l,p,n => l.length = n ∧ (0 < n → ∃ ad,p = some ad ∧ RL w l ad 0)
def RL (w : World) : List VT → Addr → Nat → Prop
 | [],_,_ => True
 | x :: r,ad,j => (∃ p n c,CellsV w (ad.add (j * 4)) x p n c ∧ n ≤ c ∧ c ≤ 9223372036854775807 ∧ RIt w x p n) ∧ RL w r ad (j + 1)
end
theorem RIt_def (w : World) (x : VT) (p : Option Addr) (n : Nat) : RIt w x p n = (x.items.length = n ∧ (0 < n → ∃ ad,p = some ad ∧ RL w x.items ad 0)) := by
 cases x
 simp only [RIt,VT.items]
theorem RL_get {w : World} {ad : Addr} : ∀ {l : List VT} {j i : Nat} {x : VT},RL w l ad j → l[i]? = some x → ∃ p n c,CellsV w (ad.add ((j + i) * 4)) x p n c ∧ n ≤ c ∧ c ≤ 9223372036854775807 ∧ RIt w x p n
 | [],_,_,_,_,h => by simp at h
 | y :: r,j,0,x,h,hx => by
  simp at hx
  subst hx
  simp only [RL] at h
  exact h.1
 | y :: r,j,i + 1,x,h,hx => by
  simp only [RL] at h
  have := RL_get (i := i) h.2 (by simpa using hx)
  rwa [show j + 1 + i = j + (i + 1) by omega] at this
theorem RIt_get {w : World} {x y : VT} {p : Option Addr} {n i : Nat} (h : RIt w x p n) (hy : x.items[i]? = some y) : ∃ ad q m c,p = some ad ∧ CellsV w (ad.add (i * 4)) y q m c ∧ m ≤ c ∧ c ≤ 9223372036854775807 ∧ RIt w y q m := by
 rw [RIt_def] at h
 have hi := (List.getElem?_eq_some_iff.1 hy).1
 obtain ⟨ad,rfl,hl⟩ := h.2 (by omega)
 obtain ⟨q,m,c,hc⟩ := RL_get hl hy
 rw [Nat.zero_add] at hc
 exact ⟨ad,q,m,c,rfl,hc⟩
theorem RIt_len {w : World} {x : VT} {p : Option Addr} {n : Nat} (h : RIt w x p n) : x.items.length = n := by rw [RIt_def] at h; exact h.1
theorem CellsV.ch {w w' : World} {a : Addr} {x : VT} {p : Option Addr} {n c : Nat} (h : CellsV w a x p n c) (hc : ∀ a v,w.cell? a = some v → w'.cell? a = some v) : CellsV w' a x p n c := ⟨hc _ _ h.c0,hc _ _ h.c1,hc _ _ h.c2,hc _ _ h.c3⟩
mutual
theorem RIt_ch {w w' : World} (hc : ∀ a v,w.cell? a = some v → w'.cell? a = some v) : ∀ (x : VT) (p : Option Addr) (n : Nat),RIt w x p n → RIt w' x p n
 | .mk _ _ _ l,p,n,h => by
  simp only [RIt] at *
  refine ⟨h.1,fun hn => ?_⟩
  obtain ⟨ad,e,hl⟩ := h.2 hn
  exact ⟨ad,e,RL_ch hc l ad 0 hl⟩
theorem RL_ch {w w' : World} (hc : ∀ a v,w.cell? a = some v → w'.cell? a = some v) : ∀ (l : List VT) (ad : Addr) (j : Nat),RL w l ad j → RL w' l ad j
 | [],_,_,_ => by simp only [RL]
 | x :: r,ad,j,h => by
  simp only [RL] at *
  obtain ⟨⟨p,n,c,h1,h2,h3,h4⟩,h5⟩ := h
  exact ⟨⟨p,n,c,h1.ch hc,h2,h3,RIt_ch hc x p n h4⟩,RL_ch hc r ad (j + 1) h5⟩
end
theorem RIt.no {w w' : World} {x : VT} {p : Option Addr} {n : Nat} (h : RIt w x p n) (hc : Ch No w w') : RIt w' x p n := RIt_ch (fun a v ha => hc.cellv ha (fun h => h)) x p n h
/-- A value by itself. -/
def valV (x : VT) (p : Option Addr) (n c : Nat) : Value := .agg #[.int .i64 x.kind,.int .i64 x.int,.string x.text,.slice p n c]
def cellsV (x : VT) (p : Option Addr) (n c : Nat) : List Value := [.int .i64 x.kind,.int .i64 x.int,.string x.text,.slice p n c]
/-- x stands in w as this value. -/
structure IsV (w : World) (x : VT) (p : Option Addr) (n c : Nat) : Prop where
 cap : n ≤ c
 big : c ≤ 9223372036854775807
 its : RIt w x p n
theorem IsV.no {w w' : World} {x : VT} {p : Option Addr} {n c : Nat} (h : IsV w x p n c) (hc : Ch No w w') : IsV w' x p n c := ⟨h.cap,h.big,h.its.no hc⟩
theorem IsV.get {w : World} {x y : VT} {p : Option Addr} {n c i : Nat} (h : IsV w x p n c) (hy : x.items[i]? = some y) : ∃ ad q m d,p = some ad ∧ CellsV w (ad.add (i * 4)) y q m d ∧ IsV w y q m d := by
 obtain ⟨ad,q,m,d,e,h1,h2,h3,h4⟩ := RIt_get h.its hy
 exact ⟨ad,q,m,d,e,h1,h2,h3,h4⟩
theorem VT.size_lt {x y : VT} {i : Nat} (h : x.items[i]? = some y) : SizeOf.sizeOf y < SizeOf.sizeOf x := by
 cases x with
 | mk k n s l =>
  have := List.sizeOf_lt_of_mem (List.mem_of_getElem? h)
  simp only [VT.items] at this
  simp only [VT.mk.sizeOf_spec]
  omega
end Go.Proofs.YtmdmomccibpjbaaGreatDoor
namespace Go.Proofs.YtmdmomccibpjbaaGreatDoor
open Go
set_option maxRecDepth 100000
/-! ### a law's post: true, and each argument reads as it did -/
theorem laidOut : laidOutB Tryz.prog = true := by kernel_rfl
theorem Ch.toBelow {w w' : World} (h : Ch No w w') : RowKit.Below w.heap.size w w' := ⟨h.os,h.tape,h.output,h.size,fun k hk => h.block k hk (fun h => h)⟩
section
variable {H : Type} {enc : TypeId × Value → H}
theorem trodAll_keep {W W' : World} (hb : Ch No W W') : ∀ (ts : List TypeId) (vs : List Value) (ds : List (DataW H)) (ps : List MemPlace),(∀ t ∈ ts,Tryz.prog.readableRec t = true ∧ t < Tryz.prog.types.size) →
  DataW.TrodAll enc Tryz.prog W 0 (fun _ => true) true ts vs ds ps → (∀ x ∈ ps,x.block < W.heap.size) → DataW.TrodAll enc Tryz.prog W' 0 (fun b => decide (b < W.heap.size)) true ts vs ds ps
 | [],[],[],ps,_,h,_ => h
 | t :: ts,v :: vs,d :: ds,ps,ht,h,hlt => by
  obtain ⟨p,q,h1,h2,rfl⟩ := h
  obtain ⟨t1,t2⟩ := ht t (.head _)
  exact ⟨p,q,RowKit.Below.trod laidOut t1 t2 h1 hb.toBelow (fun x hx => hlt x (List.mem_append_left _ hx)),trodAll_keep hb ts vs ds q (fun t h => ht t (.tail _ h)) h2 (fun x hx => hlt x (List.mem_append_right _ hx)),rfl⟩
 | [],_ :: _,_,_,_,h,_ => h.elim
 | [],[],_ :: _,_,_,h,_ => h.elim
 | _ :: _,[],_,_,_,h,_ => h.elim
 | _ :: _,_ :: _,[],_,_,h,_ => h.elim
theorem post_law {f : Func} {s : ChangeSpec} {W W' : World} {args : Array Value} {ds : List (DataW H)} {before : List MemPlace} (hf : f.resultTypes = #[4]) (hv : s.vars = [])
  (hfn : s.fn H ds = { results := [.lit (.bool true)],args := ds }) (hp : ∀ t ∈ f.params.toList,Tryz.prog.readableRec t = true ∧ t < Tryz.prog.types.size)
  (hW : DataW.Whole enc Tryz.prog f.params.toList s.vars false W args.toList ds [] before) (hc : Ch No W W') : s.post enc Tryz.prog f false true false false W args (.bool true) W' := by
 have hlt := hW.lt
 have hW' := hW
 obtain ⟨p,q,hA,hV,rfl,_,_⟩ := hW
 rw [hv] at hV
 obtain rfl : q = [] := hV
 rw [List.append_nil] at hlt hW'
 refine ⟨ds,[],p,[],p,[],hW',?_,?_,?_,hc.toBelow.frame _,fun h => by cases h⟩
 ·rw [List.append_nil,hfn,hf]
  exact ⟨[],[],RowKit.shut_bool Tryz.underlying4 _,rfl,rfl⟩
 ·rw [List.append_nil,hfn]
  exact trodAll_keep hc _ _ _ _ hp hA hlt
 ·rw [List.append_nil,hfn,hv]
  exact rfl
end
end Go.Proofs.YtmdmomccibpjbaaGreatDoor
namespace Go.Proofs.YtmdmomccibpjbaaGreatDoor
open Go Tr
set_option maxRecDepth 100000
theorem mixed : Tryz.prog.follows .mixedOrders = true := by kernel_rfl
theorem wrap_in {x : Int} (h0 : -9223372036854775808 ≤ x) (h : x ≤ 9223372036854775807) : IntKind.i64.wrap x = x := by
 rw [IntKind.wrap_i64]; omega
theorem wrap_succ {x : Int} (h0 : 0 ≤ x) (h : x < 9223372036854775807) : IntKind.i64.wrap (x + 1) = x + 1 := wrap_in (by omega) (by omega)
/-! Tests, of Int's type. -/
theorem lt_t {a b : Int} (h : decide (a < b) = true) : a < b := of_decide_eq_true h
theorem lt_f {a b : Int} (h : decide (a < b) = false) : b ≤ a := by have := of_decide_eq_false h; omega
theorem gt_t {a b : Int} (h : decide (a > b) = true) : b < a := of_decide_eq_true h
theorem gt_f {a b : Int} (h : decide (a > b) = false) : a ≤ b := by have := of_decide_eq_false h; omega
theorem le_t {a b : Int} (h : decide (a ≤ b) = true) : a ≤ b := of_decide_eq_true h
theorem ge_t {a b : Int} (h : decide (a ≥ b) = true) : b ≤ a := of_decide_eq_true h
theorem ge_f {a b : Int} (h : decide (a ≥ b) = false) : a < b := by have := of_decide_eq_false h; omega
theorem eq_t {a b : Int} (h : (a == b) = true) : a = b := by simpa using h
theorem eq_f {a b : Int} (h : (a == b) = false) : a ≠ b := by simpa using h
theorem ne_t {a b : Int} (h : (a != b) = true) : a ≠ b := by simpa using h
theorem ne_f {a b : Int} (h : (a != b) = false) : a = b := by simpa using h
/-! ### Regions that only read, the world staying one -/
section
variable {P : Program} {R : Ending → World → Prop} {Q : Exit → List (Tmp × Value) → World → Prop} {w w1 : World}
theorem dr_eq {t : T} (h : wpT P R Q t (.qu (· = w.drew)) w) : wpT P R Q (.drawn t) .pl w := ⟨(· = w.drew),rfl,h⟩
theorem un_eq {t : T} (h : wpT P R Q t .pl w1) : wpT P R Q (.undrawn t) (.qu (· = w1)) w := fun w' e => by rw [e]; exact h
theorem lq_int {a : Addr} {k : IntKind} {f : Int → T} {x : Int} (h : w1.cell? a = some (.int k x)) (hk : wpT P R Q (f x) (.qu (· = w1)) w) : wpT P R Q (.load a (.int k) f) (.qu (· = w1)) w := ⟨x,fun w' e => by rw [e]; exact h,hk⟩
theorem lq_str {a : Addr} {f : ByteArray → T} {x : ByteArray} (h : w1.cell? a = some (.string x)) (hk : wpT P R Q (f x) (.qu (· = w1)) w) : wpT P R Q (.load a .str f) (.qu (· = w1)) w := ⟨x,fun w' e => by rw [e]; exact h,hk⟩
theorem cq {C : World → Prop} {f : FuncId} {args : Array Value} {s : Shape} {k : s.Vars → T} {x : s.Vars} (h : ∀ w,C w → Calls P f args w (fun e w' => e = .returned (s.val x) ∧ C w')) (hk : wpT P R Q (k x) (.qu C) w) : wpT P R Q (.call f args s k) (.qu C) w := ⟨x,h,hk⟩
theorem nd_i {b : Bool} {k : T} {m : Md} (hb : b = true) (h : wpT P R Q k m w) : wpT P R Q (.need b k) m w := ⟨hb,h⟩
theorem nd3 {a b c : Int} {k : T} {m : Md} (h1 : 0 ≤ a) (h2 : a ≤ b) (h3 : b ≤ c) (h : wpT P R Q k m w) : wpT P R Q (.need (decide (0 ≤ a ∧ a ≤ b ∧ b ≤ c)) k) m w := ⟨decide_eq_true ⟨h1,h2,h3⟩,h⟩
theorem eff_i {t : T} {C : World → Prop} (h : wpT P R Q t (.ef C) w) : wpT P R Q (.eff t) (.he C) w := h
theorem hd_i {t : T} (C : World → Prop) (hC : C w.drew) (h : wpT P R Q t (.he C) w.drew) : wpT P R Q (.hdrawn t) .pl w := ⟨C,hC,h⟩
theorem un_h {t : T} {C : World → Prop} (h : wpT P R Q t .pl w) : wpT P R Q (.undrawn t) (.he C) w := h
section
variable {md : Md} [hmd : md.Runs]
theorem t_run {m : Sem Next} {s : Shape} {k : s.Vars → T} {x : s.Vars} {w' : World} (h : m.run P w = .ok (.value (s.val x)) w') (hk : wpT P R Q (k x) md w') : wpT P R Q (.run m s k) md w := by cases hmd <;> exact ⟨x,w',h,hk⟩
end
end
/-! ### Errors -/
abbrev tErrT : TypeId := 26
abbrev tFaultP : TypeId := 49
abbrev tFault : TypeId := 74
abbrev tErrno : TypeId := 51
/-- A fault in memory: its line, place and number. -/
def ErrAt (w : World) (v : Value) (l a c : Int) : Prop := ∃ b,v = .iface tFaultP (.pointer (some ⟨b,0,none⟩)) ∧ Blk w b [.int .i64 l,.int .i64 a,.iface tErrno (.int .i64 c)] tFault
theorem ErrAt.ch {S : Nat → Prop} {w w' : World} {v : Value} {l a c : Int} (h : ErrAt w v l a c) (hc : Ch S w w') (hS : ∀ b vs,Blk w b vs tFault → ¬ S b) : ErrAt w' v l a c := by
 obtain ⟨b,rfl,hb⟩ := h
 exact ⟨b,rfl,hb.ch hc (hS b _ hb)⟩
theorem ErrAt.no {w w' : World} {v : Value} {l a c : Int} (h : ErrAt w v l a c) (hc : Ch No w w') : ErrAt w' v l a c := h.ch hc fun _ _ _ h => h
section
variable {R : Ending → World → Prop} {Q : Exit → List (Tmp × Value) → World → Prop} {w : World} {md : Md} [hmd : md.Runs]
theorem ne_nil {k : Bool → T} {x : Operand} (h : wpT Tryz.prog R Q (k false) md w) : wpT Tryz.prog R Q (.run (vNext (guarded .neq tErrT x (.const .nilIface) .nilIface .nilIface)) (.one (.leaf .bool)) k) md w :=
 t_run (x := false) (w' := w) (by cases x <;> simp [vNext,guarded,eqGuard,go_sem,Tr.Shape.val,Tr.Comp.val,Tr.Leaf.val]) h
theorem ne_err {k : Bool → T} {x : Operand} {v : Value} {l a c : Int} (hv : ErrAt w v l a c) (h : wpT Tryz.prog R Q (k true) md w) : wpT Tryz.prog R Q (.run (vNext (guarded .neq tErrT x (.const .nilIface) v .nilIface)) (.one (.leaf .bool)) k) md w := by
 obtain ⟨b,rfl,_⟩ := hv
 exact t_run (x := true) (w' := w) (by simp [vNext,guarded,eqGuard,go_sem,Tr.Shape.val,Tr.Comp.val,Tr.Leaf.val]) h
end
theorem addr_add (b i j : Nat) : (⟨b,i,none⟩ : Addr).add j = ⟨b,i + j,none⟩ := by
 unfold Addr.add; split <;> simp_all
/-! ### Rows -/
/-- A slice that stands in memory of its own, behind the block base, holding these cells. -/
def Row (w : World) (base : Nat) (e : TypeId) (size : Nat) (p : Option Addr) (n c : Nat) (xs : List Value) : Prop := w.ownsRow base e size (.slice p n c) n xs
/-- Its block. -/
def rowS (p : Option Addr) (n c : Nat) (k : Nat) : Prop := (Value.slice p n c).ownBlock = some k
theorem Row.nil (w : World) (base : Nat) (e : TypeId) (size : Nat) : Row w base e size none 0 0 [] := World.ownsRow_nil w base e size
theorem Row.ch {w w' : World} {base : Nat} {e : TypeId} {size : Nat} {p : Option Addr} {n c : Nat} {xs : List Value} {S : Nat → Prop} (h : Row w base e size p n c xs) (hc : Ch S w w') (hS : ∀ k,rowS p n c k → ¬ S k) : Row w' base e size p n c xs := by
 refine ⟨h.1,?_⟩
 rcases h.2 with h' | ⟨g,cap,cur,h',hb,hg,r⟩
 ·exact .inl h'
 ·exact .inr ⟨g,cap,cur,h',hb,(hc.block g (Array.getElem?_eq_some_iff.1 hg).1 (hS g (by unfold rowS; rw [h']; rfl))).trans hg,r⟩
theorem Row.no {w w' : World} {base : Nat} {e : TypeId} {size : Nat} {p : Option Addr} {n c : Nat} {xs : List Value} (h : Row w base e size p n c xs) (hc : Ch No w w') : Row w' base e size p n c xs := h.ch hc fun _ _ h => h
theorem Row.of {w : World} {base : Nat} {e : TypeId} {size : Nat} {v : Value} {n : Nat} {xs : List Value} (h : w.ownsRow base e size v n xs) : ∃ p c,v = .slice p n c ∧ Row w base e size p n c xs := by
 rcases h.2 with ⟨rfl,rfl⟩ | ⟨g,cap,cur,rfl,r⟩
 ·exact ⟨none,0,rfl,h⟩
 ·exact ⟨some ⟨g,0,none⟩,cap,rfl,h⟩
theorem Row.lt {w : World} {base : Nat} {e : TypeId} {size : Nat} {p : Option Addr} {n c : Nat} {xs : List Value} (h : Row w base e size p n c xs) {k : Nat} (hk : rowS p n c k) : base ≤ k ∧ k < w.heap.size := World.ownsRow.lt h k hk
/-- What stands at a block that a row owns. -/
theorem Row.at {w : World} {base : Nat} {e : TypeId} {size : Nat} {p : Option Addr} {n c : Nat} {xs : List Value} (h : Row w base e size p n c xs) {k : Nat} (hk : rowS p n c k) : ∃ cur,w.heap[k]? = some (.cells cur e (0,0)) := by
 rcases h.2 with ⟨h',_⟩ | ⟨g,cap,cur,h',_,hg,_⟩
 ·unfold rowS at hk; rw [h'] at hk; cases hk
 ·unfold rowS at hk
  rw [h'] at hk
  obtain rfl : g = k := by simpa [Value.ownBlock] using hk
  exact ⟨cur,hg⟩
/-- A block of another type is another block. -/
theorem Row.ne {w : World} {base : Nat} {e : TypeId} {size : Nat} {p : Option Addr} {n c : Nat} {xs : List Value} (h : Row w base e size p n c xs) {b : Nat} {vs : List Value} {t : TypeId} (hb : Blk w b vs t) (ht : t ≠ e) : ¬ rowS p n c b := by
 intro hk
 obtain ⟨cur,hg⟩ := h.at hk
 unfold Blk at hb
 rw [hg] at hb
 simp only [Option.some.injEq,Obj.cells.injEq] at hb
 exact ht hb.2.1.symm
/-- Rows of two types stand in two blocks. -/
theorem Row.apart {w : World} {base base' : Nat} {e e' : TypeId} {size size' : Nat} {p p' : Option Addr} {n c n' c' : Nat} {xs xs' : List Value} (h : Row w base e size p n c xs) (h' : Row w base' e' size' p' n' c' xs') (ht : e ≠ e') (k : Nat) (hk : rowS p n c k) : ¬ rowS p' n' c' k := by
 intro hk'
 obtain ⟨cur,hg⟩ := h.at hk
 obtain ⟨cur',hg'⟩ := h'.at hk'
 rw [hg] at hg'
 simp only [Option.some.injEq,Obj.cells.injEq] at hg'
 exact ht hg'.2.1
theorem Row.len {w : World} {base : Nat} {e : TypeId} {size : Nat} {p : Option Addr} {n c : Nat} {xs : List Value} (h : Row w base e size p n c xs) : xs.length = n * size := h.1
theorem Row.cap {w : World} {base : Nat} {e : TypeId} {size : Nat} {p : Option Addr} {n c : Nat} {xs : List Value} (h : Row w base e size p n c xs) : n ≤ c ∧ c ≤ 9223372036854775807 := by
 rcases h.2 with ⟨h',rfl⟩ | ⟨g,cap,cur,h',_,_,h1,h2,_⟩
 ·simp only [Value.slice.injEq] at h'
  omega
 ·simp only [Value.slice.injEq] at h'
  unfold maxLen at h2
  omega
/-- A cell of a row. -/
theorem Row.get {w : World} {base : Nat} {e : TypeId} {size : Nat} {p : Option Addr} {n c : Nat} {xs : List Value} (h : Row w base e size p n c xs) (hn : 0 < n) : ∃ g,p = some ⟨g,0,none⟩ ∧ rowS p n c g ∧ ∀ j u,xs[j]? = some u → w.cell? ⟨g,j,none⟩ = some u := by
 rcases h.2 with ⟨h',rfl⟩ | ⟨g,cap,cur,h',_⟩
 ·simp only [Value.slice.injEq] at h'
  omega
 ·have h0 := h'
  simp only [Value.slice.injEq,true_and] at h0
  obtain ⟨rfl,rfl⟩ := h0
  refine ⟨g,rfl,rfl,fun j u hu => ?_⟩
  have := World.ownsRow.cells (g := g) h rfl j u hu
  rw [addr_add,Nat.zero_add] at this
  exact this
/-- A part of a row from its beginning. -/
theorem Row.take {w : World} {base : Nat} {e : TypeId} {size : Nat} {p : Option Addr} {n c : Nat} {xs : List Value} (h : Row w base e size p n c xs) {m : Nat} (hm : m ≤ n) : Row w base e size p m c (xs.take (m * size)) := by
 refine ⟨by rw [List.length_take,h.1]; exact Nat.min_eq_left (Nat.mul_le_mul_right _ hm),?_⟩
 rcases h.2 with ⟨h',rfl⟩ | ⟨g,cap,cur,h',hb,hg,h1,h2,h3,h4⟩
 ·simp only [Value.slice.injEq] at h'
  obtain ⟨rfl,_,rfl⟩ := h'
  obtain rfl : m = 0 := by omega
  exact .inl ⟨rfl,rfl⟩
 ·simp only [Value.slice.injEq,true_and] at h'
  obtain ⟨rfl,rfl⟩ := h'
  refine .inr ⟨g,c,cur,rfl,hb,hg,Nat.le_trans hm h1,h2,h3,?_⟩
  have hl : xs.length = n * size := h.1
  have h5 := Nat.mul_le_mul_right size hm
  have h6 : cur.toList.take (n * size) = xs := h4
  rw [← h6,List.take_take,Nat.min_eq_left h5]
/-- From w with the slice (p, n, c) to w' with the slice (p', n', c'): its own row turned, or a new one. -/
structure Grew (base : Nat) (e : TypeId) (size : Nat) (w : World) (p : Option Addr) (n c : Nat) (w' : World) (p' : Option Addr) (n' c' : Nat) (xs' : List Value) : Prop where
 own : Row w' base e size p' n' c' xs'
 ch : Ch (rowS p n c) w w'
 lies : ∀ k,rowS p' n' c' k → rowS p n c k ∨ w.heap.size ≤ k
section
variable {base : Nat} {e : TypeId} {size : Nat} {w w1 w2 : World} {p p1 p2 : Option Addr} {n c n1 c1 n2 c2 : Nat} {xs xs1 xs2 : List Value}
theorem Grew.refl (h : Row w base e size p n c xs) : Grew base e size w p n c w p n c xs := ⟨h,Ch.refl _ _,fun _ h => .inl h⟩
theorem Grew.trans (g : Grew base e size w p n c w1 p1 n1 c1 xs1) (h : Grew base e size w1 p1 n1 c1 w2 p2 n2 c2 xs2) : Grew base e size w p n c w2 p2 n2 c2 xs2 :=
 ⟨h.own,g.ch.then_ h.ch (fun i hi h => (g.lies i h).resolve_right (by omega)),fun k hk => by
  rcases h.lies k hk with h' | h'
  ·exact g.lies k h'
  ·exact .inr (Nat.le_trans g.ch.size h')⟩
theorem Grew.after (h : Ch No w w1) (g : Grew base e size w1 p n c w2 p2 n2 c2 xs2) : Grew base e size w p n c w2 p2 n2 c2 xs2 :=
 ⟨g.own,h.no.trans g.ch,fun k hk => (g.lies k hk).imp id (fun h' => Nat.le_trans h.size h')⟩
theorem Grew.then_no (g : Grew base e size w p n c w1 p1 n1 c1 xs1) (h : Ch No w1 w2) : Grew base e size w p n c w2 p1 n1 c1 xs1 := ⟨g.own.no h,g.ch.trans h.no,g.lies⟩
theorem Grew.blk (g : Grew base e size w p n c w1 p1 n1 c1 xs1) (h : Row w base e size p n c xs) {b : Nat} {vs : List Value} {t : TypeId} (hb : Blk w b vs t) (ht : t ≠ e) : Blk w1 b vs t := hb.ch g.ch (h.ne hb ht)
end
section
variable {P : Program} {R : Ending → World → Prop} {Q : Exit → List (Tmp × Value) → World → Prop} {md : Md} [hmd : md.Runs] {w : World}
/-- append of cells that stand somewhere. -/
theorem ap_row {t e : TypeId} {size bytes : Nat} {z : Value} (ht : P.underlying t = some (.slice e)) (hi : (P.info? e).map (fun i => (i.zero,i.size,i.bytes)) = some (some z,size,bytes)) (hzs : z.cells.size = size) (hsz0 : 0 < size)
  {k : Option Addr × Nat × Nat → T} {cs : Array Bool} {base : Nat} {q : Option Addr} {n c : Nat} {xs : List Value} (hown : Row w base e size q n c xs) (hb : base ≤ w.heap.size) {a : Addr} {m c' : Nat} (news : List Value) (hm : news.length = m * size)
  (hcells : ∀ (j : Nat) (u : Value),news[j]? = some u → w.cell? (a.add j) = some u) (h1 : ∀ u ∈ news,u.oneCell' = true) (hsz : n + m ≤ maxLen) (hby : (n + m) * bytes ≤ 140737488355328)
  (h : ∀ q' c' w',Grew base e size w q n c w' q' (n + m) c' (xs ++ news) → wpT P R Q (k (q',n + m,c')) md w') :
  wpT P R Q (.run (builtin .append #[t,t] t cs #[.slice q n c,.slice (some a) m c']) (.one (.leaf .sl)) k) md w := by
 cases hi' : P.info? e with
 | none => rw [hi'] at hi; cases hi
 | some i =>
  rw [hi'] at hi
  simp only [Option.map_some,Option.some.injEq,Prod.mk.injEq] at hi
  obtain ⟨v',w',hr,h2,h3,h4,h5⟩ := run_append_own_at (P := P) w base t t e i z size bytes ht hi' hi.1 hi.2.1 hi.2.2 hzs hsz0 (.slice q n c) n xs hown a m c' news hm hcells h1 hsz hby hb
  obtain ⟨q',d,rfl,ho⟩ := Row.of h2
  refine t_run (x := (q',n + m,d)) (w' := w') ?_ (h q' d w' ⟨ho,Ch.of_grown h3 (fun k hk => hk),fun k hk => ?_⟩)
  ·simp only [builtin,Sem.run_bind,hr,Result.andThen]
   rfl
  ·unfold rowS at *
   rcases h5 with h5 | h5
   ·exact .inl (h5 ▸ hk)
   ·rw [h5] at hk; cases hk; exact .inr (Nat.le_refl _)
/-- append of a block that is told whole. -/
theorem ap_blk {t e : TypeId} {size bytes : Nat} {z : Value} (ht : P.underlying t = some (.slice e)) (hi : (P.info? e).map (fun i => (i.zero,i.size,i.bytes)) = some (some z,size,bytes)) (hzs : z.cells.size = size) (hsz0 : 0 < size)
  {k : Option Addr × Nat × Nat → T} {cs : Array Bool} {base : Nat} {q : Option Addr} {n c : Nat} {xs : List Value} (hown : Row w base e size q n c xs) (hb : base ≤ w.heap.size) {b m c' : Nat} {vs : List Value} {u : TypeId} (hblk : Blk w b vs u) (hm : vs.length = m * size)
  (h1 : ∀ u ∈ vs,u.oneCell' = true) (hsz : n + m ≤ maxLen) (hby : (n + m) * bytes ≤ 140737488355328)
  (h : ∀ q' c' w',Grew base e size w q n c w' q' (n + m) c' (xs ++ vs) → wpT P R Q (k (q',n + m,c')) md w') :
  wpT P R Q (.run (builtin .append #[t,t] t cs #[.slice q n c,.slice (some ⟨b,0,none⟩) m c']) (.one (.leaf .sl)) k) md w :=
 ap_row ht hi hzs hsz0 hown hb vs hm (fun j u hu => by rw [addr_add,Nat.zero_add,hblk.cell]; exact hu) h1 hsz hby h
end
end Go.Proofs.YtmdmomccibpjbaaGreatDoor
namespace Go.Proofs.YtmdmomccibpjbaaGreatDoor
open Go Tr
set_option maxRecDepth 100000
abbrev tBytes : TypeId := 76
abbrev tByte : TypeId := 5
theorem tb_list (l : List UInt8) : (bytesL l).toList = l := by rw [ByteArray.toList_eq]
theorem tb_size (l : List UInt8) : (bytesL l).size = l.length := by show (List.toArray l).size = _; simp
theorem tb_data (l : List UInt8) : (bytesL l).data.toList = l := rfl
/-! ### Bytes that stand somewhere -/
def AtB (w : World) (p : Option Addr) (n : Nat) (bs : List UInt8) : Prop := bs.length = n ∧ (0 < n → ∃ ad,p = some ad ∧ ∀ (j : Nat) (u : UInt8),bs[j]? = some u → w.cell? (ad.add j) = some (.int .u8 u.toNat))
theorem foldl_push (l : List UInt8) : ∀ (s : ByteArray),(l.map fun b => ((b.toNat : Nat) : Int)).foldl (fun r n => r.push (UInt8.ofNat n.toNat)) s = ⟨s.data ++ l.toArray⟩ := by
 induction l with
 | nil => intro s; simp
 | cons b r ih =>
  intro s
  simp only [List.map_cons,List.foldl_cons]
  rw [ih]
  congr 1
  simp [ByteArray.push]
theorem run_conv {w : World} {p : Option Addr} {n c : Nat} {bs : List UInt8} (h : AtB w p n bs) : (vNext (convert tBytes 9 (.slice p n c))).run Tryz.prog w = .ok (.value (.string ⟨bs.toArray⟩)) w := by
 have key : (convert tBytes 9 (.slice p n c)).run Tryz.prog w = .ok (.string ⟨bs.toArray⟩) w := by
  rw [run_convert_bytes_string w tBytes 9 tByte p n c (by kernel_rfl) (by kernel_rfl) (by kernel_rfl)]
  cases p with
  | none =>
   have h0 : n = 0 := by
    rcases Nat.eq_zero_or_pos n with h0 | h0
    ·exact h0
    ·obtain ⟨_,e,_⟩ := h.2 h0
     cases e
   have : bs = [] := List.eq_nil_of_length_eq_zero (by rw [h.1,h0])
   subst this
   rfl
  | some ad =>
   have hl : (loadCells ad n).run Tryz.prog w = .ok (((bs.map fun b => ((b.toNat : Nat) : Int)).map (Value.int .u8))).toArray w := by
    have h2 := run_loadCells_list (P := Tryz.prog) w ad (Lib.byteCells bs) (fun j v hv => by
     simp only [Lib.byteCells,List.getElem?_map,Option.map_eq_some_iff] at hv
     obtain ⟨b,hb,rfl⟩ := hv
     have hlt := (List.getElem?_eq_some_iff.1 hb).1
     obtain ⟨ad',e,hj⟩ := h.2 (by have := h.1; omega)
     cases e
     exact hj j b hb)
    rw [Lib.byteCells_length,h.1] at h2
    rw [h2]
    simp [Lib.byteCells,Function.comp_def]
   rw [run_bytesToString w ad n c _ hl,foldl_push]
   congr 2
   simp
 unfold vNext
 simp only [Sem.run_bind,key,Result.andThen]
 rfl
theorem cv_b {R : Ending → World → Prop} {Q : Exit → List (Tmp × Value) → World → Prop} {md : Md} [hmd : md.Runs] {w : World} {k : ByteArray → T} {p : Option Addr} {n c : Nat} {bs : List UInt8} (h : AtB w p n bs) (hk : wpT Tryz.prog R Q (k (bytesL bs)) md w) : wpT Tryz.prog R Q (.run (vNext (convert tBytes 9 (.slice p n c))) (.one (.leaf .str)) k) md w := t_run (x := bytesL bs) (run_conv h) hk
section
variable {R : Ending → World → Prop} {Q : Exit → List (Tmp × Value) → World → Prop} {w : World} {md : Md} [hmd : md.Runs]
end
end Go.Proofs.YtmdmomccibpjbaaGreatDoor
namespace Go.Proofs.YtmdmomccibpjbaaGreatDoor
open Go Tr
open Go.Lib (byteCells strCells)
set_option maxRecDepth 100000
abbrev tStr : TypeId := 9
/-! ### Rows of bytes -/
theorem infoByte : (Tryz.prog.info? tByte).map (fun i => (i.zero,i.size,i.bytes)) = some (some (.int .u8 0),1,1) := by kernel_rfl
/-- A slice of bytes of its own. -/
def RowB (w : World) (base : Nat) (p : Option Addr) (n c : Nat) (bs : List UInt8) : Prop := Row w base tByte 1 p n c (byteCells bs)
def GrewB (base : Nat) (w : World) (p : Option Addr) (n c : Nat) (w' : World) (p' : Option Addr) (n' c' : Nat) (bs : List UInt8) : Prop := Grew base tByte 1 w p n c w' p' n' c' (byteCells bs)
theorem RowB.len {w : World} {base : Nat} {p : Option Addr} {n c : Nat} {bs : List UInt8} (h : RowB w base p n c bs) : bs.length = n := by
 have := h.1
 simpa [Lib.byteCells_length] using this
theorem byteCells_one (l : List UInt8) : ∀ u ∈ byteCells l,u.oneCell' = true := fun u hu => by
 simp only [byteCells,List.mem_map] at hu
 obtain ⟨b,_,rfl⟩ := hu
 rfl
section
variable {R : Ending → World → Prop} {Q : Exit → List (Tmp × Value) → World → Prop} {md : Md} [hmd : md.Runs] {w : World}
theorem ap_b {k : Option Addr × Nat × Nat → T} {cs : Array Bool} {base : Nat} {q : Option Addr} {n c : Nat} {bs : List UInt8} (hown : RowB w base q n c bs) (hb : base ≤ w.heap.size) {b m c' : Nat} {vs : List Value} {u : TypeId} (hblk : Blk w b vs u) (news : List UInt8) (hv : vs = byteCells news) (hm : news.length = m) (hsz : n + m ≤ 140737488355328)
  (h : ∀ q' c' w',GrewB base w q n c w' q' (n + m) c' (bs ++ news) → wpT Tryz.prog R Q (k (q',n + m,c')) md w') :
  wpT Tryz.prog R Q (.run (builtin .append #[tBytes,tBytes] tBytes cs #[.slice q n c,.slice (some ⟨b,0,none⟩) m c']) (.one (.leaf .sl)) k) md w := by
 subst hv
 refine ap_blk (by kernel_rfl) infoByte rfl (by omega) hown hb hblk (by simp [Lib.byteCells_length,hm]) (byteCells_one news) (by unfold maxLen; omega) (by omega) fun q' c' w' g => h q' c' w' ?_
 simpa [byteCells,GrewB] using g
/-- append of a string. -/
theorem ap_s {k : Option Addr × Nat × Nat → T} {cs : Array Bool} {base : Nat} {q : Option Addr} {n c : Nat} {bs : List UInt8} (hown : RowB w base q n c bs) (hb : base ≤ w.heap.size) {s : ByteArray} (hsz : n + s.size ≤ 140737488355328)
  (h : ∀ q' c' w',GrewB base w q n c w' q' (n + s.size) c' (bs ++ s.data.toList) → wpT Tryz.prog R Q (k (q',n + s.size,c')) md w') :
  wpT Tryz.prog R Q (.run (builtin .append #[tBytes,tStr] tBytes cs #[.slice q n c,.string s]) (.one (.leaf .sl)) k) md w := by
 have hi := infoByte
 cases hi' : Tryz.prog.info? tByte with
 | none => rw [hi'] at hi; cases hi
 | some i =>
  rw [hi'] at hi
  simp only [Option.map_some,Option.some.injEq,Prod.mk.injEq] at hi
  obtain ⟨hz,hs,hy⟩ := hi
  obtain ⟨v',w',hr,h2,h3,h4⟩ := Lib.run_append_own_string (P := Tryz.prog) w base tBytes tStr tBytes tByte i (by kernel_rfl) (by kernel_rfl) hi' hz hs hy (.slice q n c) n (byteCells bs) hown s (by unfold maxLen; omega) hsz hb
  have h5 : ∀ k,v'.ownBlock = some k → rowS q n c k ∨ w.heap.size ≤ k := by
   intro k hk
   rcases hown.2 with ⟨e0,rfl⟩ | ⟨g,cap,cur,e0,hbg,hg,hnc,hcm,hcs,htake⟩
   ·obtain ⟨rfl,_,rfl⟩ := by simpa using e0
    by_cases hm : s.size = 0
    ·rw [h4.2 ⟨rfl,hm⟩] at hk; cases hk
    ·have hr2 := run_append_nil_string (P := Tryz.prog) w tBytes tStr tBytes tByte i (.int .u8 0) (by kernel_rfl) (by kernel_rfl) hi' hz s (by omega) (by omega) (by rw [hy]; omega)
     rw [hr] at hr2
     simp only [Result.ok.injEq] at hr2
     rw [hr2.1] at hk
     exact .inr (by simp [Value.ownBlock] at hk; omega)
   ·simp only [Value.slice.injEq,true_and] at e0
    obtain ⟨rfl,rfl⟩ := e0
    by_cases hroom : n + s.size ≤ c
    ·have hr2 := Lib.run_append_room_string (P := Tryz.prog) w tBytes tStr tBytes tByte i (by kernel_rfl) (by kernel_rfl) hi' hs g n c cur hg s hroom (by omega)
     rw [hr] at hr2
     simp only [Result.ok.injEq] at hr2
     rw [hr2.1] at hk
     exact .inl hk
    ·have holds : ∀ j u,(byteCells bs)[j]? = some u → w.cell? ((⟨g,0,none⟩ : Addr).add j) = some u := World.ownsRow.cells (g := g) hown rfl
     have hr2 := Lib.run_append_grow_string (P := Tryz.prog) w tBytes tStr tBytes tByte i (.int .u8 0) (by kernel_rfl) (by kernel_rfl) hi' hz ⟨g,0,none⟩ n c (byteCells bs) (by rw [hs]; exact hown.1) holds s (by omega) (by omega) (by rw [hy]; exact growslice_fits (by omega) (by omega))
     rw [hr] at hr2
     simp only [Result.ok.injEq] at hr2
     rw [hr2.1] at hk
     exact .inr (by simp [Value.ownBlock] at hk; omega)
  have h2' : w'.ownsRow base tByte 1 v' (n + s.size) (byteCells (bs ++ s.data.toList)) := by simpa [byteCells,strCells] using h2
  obtain ⟨q',d,rfl,ho⟩ := Row.of h2'
  refine t_run (x := (q',n + s.size,d)) (w' := w') ?_ (h q' d w' ⟨ho,Ch.of_grown h3 (fun k hk => hk),h5⟩)
  simp only [builtin,Sem.run_bind,hr,Result.andThen]
  rfl
end
theorem RowB.at {w : World} {base : Nat} {p : Option Addr} {n c : Nat} {bs : List UInt8} (h : RowB w base p n c bs) : AtB w p n bs := ⟨h.len,fun hn => by
 rcases h.2 with ⟨_,rfl⟩ | ⟨g,cap,cur,e,_⟩
 ·omega
 ·simp only [Value.slice.injEq,true_and] at e
  obtain ⟨rfl,rfl⟩ := e
  refine ⟨_,rfl,fun j u hu => ?_⟩
  exact World.ownsRow.cells (g := g) h rfl j _ (by simp [byteCells,hu])⟩
end Go.Proofs.YtmdmomccibpjbaaGreatDoor
namespace Go.Proofs.YtmdmomccibpjbaaGreatDoor
open Go Tr
open Go.Lib (byteCells strCells)
set_option maxRecDepth 100000
/-! the tree of function 60 -/
def s60 : Script := .ld .ptr (.rn (.one (.leaf .bool)) (.sym (.nop (.nop (.rn (.one (.leaf .ptr)) (.nop (.rn (.one (.leaf .ptr)) .nil))))) (.ld .ptr (.nop (.rn (.one (.leaf .bool)) (.sym .nil .nil))))))
theorem t60 (qa0 : Addr) : fnT Tryz.prog Tryz.f60 #[.pointer (some qa0)] s60 = .load qa0 .ptr (fun p1 => .run (vNext (guarded .eql 75 (.tmp 5) (.const (.pointer none)) (.pointer p1) (.pointer none))) (.one (.leaf .bool)) (fun b2 => .br b2 (.run (vNext (convert 75 153 (.pointer (some qa0)))) (.one (.leaf .ptr)) (fun p3 => .run (vNext (convert 153 75 (.pointer p3))) (.one (.leaf .ptr)) (fun p4 => .store qa0 (.pointer p4) (.done (.returned (.tuple #[])))))) (.load qa0 .ptr (fun p5 => .run (vNext (guarded .neq 75 (.tmp 17) (.tmp 18) (.pointer p5) (.pointer (some qa0)))) (.one (.leaf .bool)) (fun b6 => .br b6 (.stuck) (.done (.returned (.tuple #[])))))))) := by kernel_rfl
/-! the tree of function 28 -/
def s28 : Script := .cl (.tup []) (.ld .sl (.nop (.rn (.one (.leaf .sl)) .nil)))
theorem t28 (qa0 : Addr) (qs1 : ByteArray) : fnT Tryz.prog Tryz.f28 #[.pointer (some qa0),.string qs1] s28 = .call 60 #[.pointer (some qa0)] (.tup []) (fun r1 => .load (qa0.add 1) .sl (fun l2 => .run (builtin .append #[76,9] 76 #[false,false] #[.slice l2.1 l2.2.1 l2.2.2,.string qs1]) (.one (.leaf .sl)) (fun l3 => .store (qa0.add 1) (.slice l3.1 l3.2.1 l3.2.2) (.done (.returned (.tuple #[.int .i64 (↑qs1.size : Int),.nilIface])))))) := by kernel_rfl
abbrev tBd : TypeId := 78
abbrev tBdP : TypeId := 75
abbrev tUnsafe : TypeId := 153
/-- A Builder in the block b, which holds the bytes bs in the row (p, n, c). -/
structure Bld (base : Nat) (w : World) (b : Nat) (p : Option Addr) (n c : Nat) (bs : List UInt8) : Prop where
 blk : ∃ a : Option Addr,(a = none ∨ a = some ⟨b,0,none⟩) ∧ Blk w b [.pointer a,.slice p n c] tBd
 row : RowB w base p n c bs
 lo : base ≤ b
/-- From w to w' the Builder b has been written to; nothing else has turned. -/
structure GrewW (base b : Nat) (w : World) (p : Option Addr) (n c : Nat) (w' : World) (p' : Option Addr) (n' c' : Nat) (bs : List UInt8) : Prop where
 bld : Bld base w' b p' n' c' bs
 ch : Ch (fun k => k = b ∨ rowS p n c k) w w'
 lies : ∀ k,rowS p' n' c' k → rowS p n c k ∨ w.heap.size ≤ k
section
variable {base b : Nat} {w w1 w2 : World} {p p1 p2 : Option Addr} {n c n1 c1 n2 c2 : Nat} {bs bs1 bs2 : List UInt8}
theorem Bld.lt (h : Bld base w b p n c bs) : b < w.heap.size := by obtain ⟨a,_,hb⟩ := h.blk; exact hb.lt
theorem Bld.no (h : Bld base w b p n c bs) (hc : Ch No w w1) : Bld base w1 b p n c bs := by
 obtain ⟨a,ha,hb⟩ := h.blk
 exact ⟨⟨a,ha,hb.ch hc (fun h => h)⟩,h.row.no hc,h.lo⟩
theorem Bld.len (h : Bld base w b p n c bs) : bs.length = n := h.row.len
theorem GrewW.refl (h : Bld base w b p n c bs) : GrewW base b w p n c w p n c bs := ⟨h,Ch.refl _ _,fun _ h => .inl h⟩
theorem GrewW.trans (hb : Bld base w b p n c bs) (g : GrewW base b w p n c w1 p1 n1 c1 bs1) (h : GrewW base b w1 p1 n1 c1 w2 p2 n2 c2 bs2) : GrewW base b w p n c w2 p2 n2 c2 bs2 :=
 ⟨h.bld,g.ch.then_ h.ch (fun i hi h => h.imp id (fun h => (g.lies i h).resolve_right (by omega))),fun k hk => by
  rcases h.lies k hk with h' | h'
  ·exact g.lies k h'
  ·exact .inr (Nat.le_trans g.ch.size h')⟩
theorem GrewW.after (h : Ch No w w1) (g : GrewW base b w1 p n c w2 p2 n2 c2 bs2) : GrewW base b w p n c w2 p2 n2 c2 bs2 :=
 ⟨g.bld,h.no.trans g.ch,fun k hk => (g.lies k hk).imp id (fun h' => Nat.le_trans h.size h')⟩
theorem GrewW.then_no (g : GrewW base b w p n c w1 p1 n1 c1 bs1) (h : Ch No w1 w2) : GrewW base b w p n c w2 p1 n1 c1 bs1 := ⟨g.bld.no h,g.ch.trans h.no,g.lies⟩
theorem GrewW.below (g : GrewW base b w p n c w1 p1 n1 c1 bs1) (h : Bld base w b p n c bs) : Ch (base ≤ ·) w w1 := g.ch.mono fun k hk => by
 rcases hk with rfl | hk
 ·exact h.lo
 ·exact (h.row.lt hk).1
/-- A block of another type stays. -/
theorem GrewW.blk (g : GrewW base b w p n c w1 p1 n1 c1 bs1) (h : Bld base w b p n c bs) {k : Nat} {vs : List Value} {t : TypeId} (hb : Blk w k vs t) (ht : t ≠ tByte) (ht' : t ≠ tBd) : Blk w1 k vs t := by
 refine hb.ch g.ch fun hk => ?_
 rcases hk with rfl | hk
 ·obtain ⟨a,_,hb'⟩ := h.blk
  unfold Blk at hb hb'
  rw [hb] at hb'
  simp only [Option.some.injEq,Obj.cells.injEq] at hb'
  exact ht' hb'.2.1
 ·exact h.row.ne hb ht hk
end
theorem eql_none (x : Operand) (w : World) : (vNext (guarded .eql tBdP x (.const (.pointer none)) (.pointer none) (.pointer none))).run Tryz.prog w = .ok (.value (.bool true)) w := by kernel_rfl
theorem eql_some (x : Operand) (a : Addr) (w : World) : (vNext (guarded .eql tBdP x (.const (.pointer none)) (.pointer (some a)) (.pointer none))).run Tryz.prog w = .ok (.value (.bool false)) w := by kernel_rfl
theorem info72 : (Tryz.prog.info? tBd).map (·.size) = some 2 := by kernel_rfl
theorem copy_any (base b : Nat) (w : World) (p : Option Addr) (n c : Nat) (bs : List UInt8) (h : Bld base w b p n c bs) :
  Calls Tryz.prog 60 #[.pointer (some ⟨b,0,none⟩)] w fun e w' => e = .returned (.tuple #[]) ∧ Ch (· = b) w w' ∧ w'.heap.size = w.heap.size ∧ Blk w' b [.pointer (some ⟨b,0,none⟩),.slice p n c] tBd := by
 obtain ⟨a,ha,hb⟩ := h.blk
 cases hj : Tryz.prog.info? tBd with
 | none => have := info72; rw [hj] at this; cases this
 | some j =>
  have hjs : j.size = 2 := by have := info72; rw [hj] at this; simpa using this
  refine calls_of_fnT mixed Tryz.func60 (s := s60) ?_
  rw [t60]
  refine ld_ptr (hb.cell 0) ?_
  rcases ha with rfl | rfl
  ·refine t_run (x := true) (eql_none _ w) (br_both (fun _ => ?_) (fun e => by cases e))
   have hsh : w.shape? b = some (tBd,2) := by unfold Blk at hb; simp [World.shape?,hb]
   have h1 : (vNext (convert tBdP tUnsafe (.pointer (some ⟨b,0,none⟩)))).run Tryz.prog w = .ok (.value (.pointer (some ⟨b,0,none⟩))) w := by
    unfold vNext
    simp only [Sem.run_bind,Lib.run_to_unsafe (P := Tryz.prog) (src := tBdP) (dst := tUnsafe) (t := tBd) w ⟨b,0,none⟩ (by kernel_rfl) (by kernel_rfl) hj (by rw [hjs]; decide) hsh (Nat.zero_lt_succ 1),Result.andThen]
    rfl
   have h2 : (vNext (convert tUnsafe tBdP (.pointer (some ⟨b,0,none⟩)))).run Tryz.prog w = .ok (.value (.pointer (some ⟨b,0,none⟩))) w := by
    unfold vNext
    simp only [Sem.run_bind,Lib.run_from_unsafe (P := Tryz.prog) (src := tUnsafe) (dst := tBdP) (u := tBd) w ⟨b,0,none⟩ (by kernel_rfl) (by kernel_rfl) hj hsh (by kernel_rfl),Result.andThen]
    rfl
   refine t_run (x := some ⟨b,0,none⟩) h1 (t_run (x := some ⟨b,0,none⟩) h2 ?_)
   refine st_blk hb (by simp) rfl fun w1 k1 z1 b1 => ⟨rfl,k1,z1,b1⟩
  ·refine t_run (x := false) (eql_some _ _ w) (br_both (fun e => by cases e) fun _ => ?_)
   refine ld_ptr (hb.cell 0) ?_
   have h1 : ∀ x y : Operand,(vNext (guarded .neq tBdP x y (.pointer (some ⟨b,0,none⟩)) (.pointer (some ⟨b,0,none⟩)))).run Tryz.prog w = .ok (.value (.bool false)) w := by
    intro x y
    unfold vNext guarded
    have hg : (eqGuard .neq tBdP x y (.pointer (some ⟨b,0,none⟩)) (.pointer (some ⟨b,0,none⟩))).run Tryz.prog w = .ok () w := by simp [eqGuard,go_sem]
    simp only [Sem.run_bind,hg,Lib.run_neq_ptr_same (P := Tryz.prog) (tp := tBdP) (te := tBd) w ⟨b,0,none⟩ (by kernel_rfl) hj,Result.andThen]
    rfl
   exact t_run (x := false) (h1 _ _) (br_both (fun e => by cases e) fun _ => ⟨rfl,Ch.refl _ _,rfl,hb⟩)
theorem Bld.copied {base b : Nat} {w w' : World} {p : Option Addr} {n c : Nat} {bs : List UInt8} (h : Bld base w b p n c bs) (hc : Ch (· = b) w w') (hb : Blk w' b [.pointer (some ⟨b,0,none⟩),.slice p n c] tBd) : GrewW base b w p n c w' p n c bs :=
 ⟨⟨⟨_,.inr rfl,hb⟩,h.row.ch hc (fun k hk e => by
  subst e
  obtain ⟨a,_,hb'⟩ := h.blk
  exact h.row.ne hb' (by decide) hk),h.lo⟩,hc.mono fun k hk => .inl hk,fun k hk => .inl hk⟩
/-- The row has been written to; then the Builder's slice. -/
theorem Bld.stored {base b : Nat} {w w1 w2 : World} {p : Option Addr} {n c : Nat} {bs : List UInt8} {q : Option Addr} {m d : Nat} {bs' : List UInt8} {t : TypeId} (h : Bld base w b p n c bs) (g : GrewB base w p n c w1 q m d bs') (hc : Ch (· = b) w1 w2) (ht : t = tBd)
  (hb : Blk w2 b [.pointer (some ⟨b,0,none⟩),.slice q m d] t) (hb1 : ∃ vs,Blk w1 b vs tBd) : GrewW base b w p n c w2 q m d bs' := by
 subst ht
 obtain ⟨vs,hb1⟩ := hb1
 refine ⟨⟨⟨_,.inr rfl,hb⟩,g.own.ch hc (fun k hk e => ?_),h.lo⟩,(g.ch.mono fun k hk => .inr hk).trans (hc.mono fun k hk => .inl hk),g.lies⟩
 subst e
 exact Row.ne g.own hb1 (by decide) hk
theorem writeString_any (base b : Nat) (w : World) (p : Option Addr) (n c : Nat) (bs : List UInt8) (s : ByteArray) (h : Bld base w b p n c bs) (hw : base ≤ w.heap.size) (hsz : n + s.size ≤ 140737488355328) :
  Calls Tryz.prog 28 #[.pointer (some ⟨b,0,none⟩),.string s] w fun e w' => e = .returned (.tuple #[.int .i64 s.size,.nilIface]) ∧ ∃ q m d,GrewW base b w p n c w' q m d (bs ++ s.data.toList) := by
 refine calls_of_fnT mixed Tryz.func28 (s := s28) ?_
 rw [t28]
 refine cl_i (copy_any base b w p n c bs h) ?_
 rintro e w1 ⟨rfl,h1,z1,b1⟩
 refine ⟨(),rfl,?_⟩
 have g1 := h.copied h1 b1
 refine ld_sl (b1.cell 1) (ap_s g1.bld.row (by omega) hsz fun q d w2 g2 => ?_)
 have b2 := Grew.blk g2 g1.bld.row b1 (by decide)
 refine st_blk b2 (by simp) rfl fun w3 h3 z3 b3 => ⟨rfl,q,n + s.size,d,?_⟩
 exact GrewW.trans h g1 (g1.bld.stored g2 h3 rfl b3 ⟨_,b2⟩)
end Go.Proofs.YtmdmomccibpjbaaGreatDoor
