/- Worlds that differ in some blocks alone; rules for the steps of a tree; values of the package api in memory. -/
import Derived.Test.YtkebljkdkaagfaaGreatDoorTrS
import Derived.Below
import Derived.Laws.NewBlocks
import Derived.Laws.Strings
namespace Go.Proofs.YtkebljkdkaagfaaGreatDoor
open Go Tr
open Go.RowKit (Below)
/-- From w to w': the streams stay; of w's blocks only those of S may have turned. -/
structure Ch (S : Nat → Prop) (w w' : World) : Prop where
  os : w'.os = w.os
  tape : w'.tape = w.tape
  output : w'.output = w.output
  size : w.heap.size ≤ w'.heap.size
  block : ∀ k, k < w.heap.size → ¬ S k → w'.heap[k]? = w.heap[k]?
def No : Nat → Prop := fun _ => False
namespace Ch
variable {S S' : Nat → Prop} {w w' w'' : World}
theorem refl (S : Nat → Prop) (w : World) : Ch S w w := ⟨rfl, rfl, rfl, Nat.le_refl _, fun _ _ _ => rfl⟩
theorem trans (h : Ch S w w') (k : Ch S w' w'') : Ch S w w'' :=
  ⟨k.os.trans h.os, k.tape.trans h.tape, k.output.trans h.output, Nat.le_trans h.size k.size, fun i hi hs => (k.block i (Nat.lt_of_lt_of_le hi h.size) hs).trans (h.block i hi hs)⟩
theorem mono (h : Ch S w w') (hs : ∀ k, S k → S' k) : Ch S' w w' := ⟨h.os, h.tape, h.output, h.size, fun k hk hn => h.block k hk (fun x => hn (hs k x))⟩
theorem no (h : Ch No w w') : Ch S w w' := h.mono fun _ h => h.elim
/-- What comes behind may turn blocks that are new, too. -/
theorem then_ (h : Ch S w w') (k : Ch S' w' w'') (hs : ∀ i, i < w.heap.size → S' i → S i) : Ch S w w'' :=
  ⟨k.os.trans h.os, k.tape.trans h.tape, k.output.trans h.output, Nat.le_trans h.size k.size, fun i hi hn => (k.block i (Nat.lt_of_lt_of_le hi h.size) (fun x => hn (hs i hi x))).trans (h.block i hi hn)⟩
theorem alloc (h : Ch S w w') (o : Obj) : Ch S w (w'.alloc o) :=
  ⟨h.os, h.tape, h.output, by have := h.size; simp; omega, fun k hk hn => by rw [Below.heap_alloc _ _ _ (Nat.lt_of_lt_of_le hk h.size)]; exact h.block k hk hn⟩
theorem drew (h : Ch S w w') : Ch S w w'.drew := ⟨h.os, h.tape, h.output, h.size, h.block⟩
theorem set (h : Ch S w w') {p : Addr} (hp : w.heap.size ≤ p.block ∨ S p.block) (u : Value) : Ch S w (w'.setCell p u) :=
  ⟨h.os, h.tape, h.output, by have := h.size; simpa using this, fun k hk hn => by
    rw [Below.heap_setCell _ _ _ _ (fun e => by
      subst e
      rcases hp with hp | hp
      · omega
      · exact hn hp)]
    exact h.block k hk hn⟩
theorem of_below (h : Below w.heap.size w w') : Ch S w w' := ⟨h.os, h.tape, h.output, h.size, fun k hk _ => h.block k hk⟩
theorem of_grown {row : Option Nat} (hg : w.grownBy w' row) (hr : ∀ k, row = some k → S k) : Ch S w w' :=
  ⟨hg.os, hg.tape, hg.output, hg.size, fun k hk hn => hg.block k hk (fun e => hn (hr k e.symm))⟩
theorem cell (h : Ch S w w') {p : Addr} (hp : p.block < w.heap.size) (hn : ¬ S p.block) : w'.cell? p = w.cell? p := World.cell?_of_block (w := w) (h.block p.block hp hn)
theorem cellv (h : Ch S w w') {p : Addr} {v : Value} (hc : w.cell? p = some v) (hn : ¬ S p.block) : w'.cell? p = some v := (h.cell (World.block_lt_of_cell? w p hc) hn).trans hc
end Ch
/-! ### A block told whole -/
/-- Block b holds just these cells; nothing of it is frozen. -/
def Blk (w : World) (b : Nat) (cs : List Value) (t : TypeId) : Prop := w.heap[b]? = some (.cells cs.toArray t (0, 0))
theorem Blk.cell {w : World} {b : Nat} {cs : List Value} {t : TypeId} (h : Blk w b cs t) (i : Nat) : w.cell? ⟨b, i, none⟩ = cs[i]? := by
  unfold World.cell?
  rw [h]
  simp
theorem Blk.lt {w : World} {b : Nat} {cs : List Value} {t : TypeId} (h : Blk w b cs t) : b < w.heap.size := (Array.getElem?_eq_some_iff.1 h).1
theorem Blk.free {w : World} {b : Nat} {cs : List Value} {t : TypeId} (h : Blk w b cs t) (i : Nat) (s : Option Nat) : w.frozen? ⟨b, i, s⟩ = false := by
  unfold World.frozen?
  rw [h]
  simp
theorem Blk.ch {S : Nat → Prop} {w w' : World} {b : Nat} {cs : List Value} {t : TypeId} (h : Blk w b cs t) (hc : Ch S w w') (hn : ¬ S b) : Blk w' b cs t := (hc.block b h.lt hn).trans h
theorem blk_new (w : World) (cs : List Value) (t : TypeId) : Blk (w.alloc (.cells cs.toArray t (0, 0))) w.heap.size cs t := by
  show (w.heap.push _)[w.heap.size]? = _
  simp
theorem Blk.set {w : World} {b : Nat} {cs : List Value} {t : TypeId} (h : Blk w b cs t) (i : Nat) (v : Value) : Blk (w.setCell ⟨b, i, none⟩ v) b (cs.set i v) t := by
  unfold Blk at *
  simp only [World.setCell, Array.getElem?_modify, if_true, h]
  simp
/-! ### Rules for a tree's steps -/
section
variable {P : Program} {R : Ending → World → Prop} {Q : Exit → List (Tmp × Value) → World → Prop} {w : World}
section
variable {md : Md} [hmd : md.Runs]
theorem ld_int {a : Addr} {k : IntKind} {f : Int → T} {x : Int} (h : w.cell? a = some (.int k x)) (hk : wpT P R Q (f x) md w) : wpT P R Q (.load a (.int k) f) md w := ⟨x, t_told h, hk⟩
theorem ld_str {a : Addr} {f : ByteArray → T} {x : ByteArray} (h : w.cell? a = some (.string x)) (hk : wpT P R Q (f x) md w) : wpT P R Q (.load a .str f) md w := ⟨x, t_told h, hk⟩
theorem ld_bool {a : Addr} {f : Bool → T} {x : Bool} (h : w.cell? a = some (.bool x)) (hk : wpT P R Q (f x) md w) : wpT P R Q (.load a .bool f) md w := ⟨x, t_told h, hk⟩
theorem ld_sl {a : Addr} {f : Option Addr × Nat × Nat → T} {p : Option Addr} {n c : Nat} (h : w.cell? a = some (.slice p n c)) (hk : wpT P R Q (f (p, n, c)) md w) : wpT P R Q (.load a .sl f) md w := ⟨(p, n, c), t_told h, hk⟩
theorem ld_any {a : Addr} {f : Value → T} {x : Value} (h : w.cell? a = some x) (hk : wpT P R Q (f x) md w) : wpT P R Q (.load a .any f) md w := ⟨x, t_told h, hk⟩
/-- A new block: the world gets a new name. -/
theorem nw {cs : List Value} {t : TypeId} {f : Nat → T}
    (h : ∀ w1, Ch No w w1 → w1.heap.size = w.heap.size + 1 → Blk w1 w.heap.size cs t → wpT P R Q (f w.heap.size) md w1) : wpT P R Q (.new (.cells cs.toArray t (0, 0)) f) md w :=
  t_new (h _ ((Ch.refl _ _).alloc _) (by simp) (blk_new w cs t))
/-- A store into a block that is told whole. -/
theorem st_blk {b i : Nat} {v : Value} {k : T} {cs : List Value} {t : TypeId} (hb : Blk w b cs t) (hi : i < cs.length) (hv : v.oneCell' = true)
    (h : ∀ w1, Ch (· = b) w w1 → w1.heap.size = w.heap.size → Blk w1 b (cs.set i v) t → wpT P R Q k md w1) : wpT P R Q (.store ⟨b, i, none⟩ v k) md w :=
  t_store ⟨hv, ⟨cs[i], by rw [hb.cell]; simp [hi]⟩, hb.free _ _, h _ ((Ch.refl (· = b) w).set (p := ⟨b, i, none⟩) (.inr rfl) v) (by simp) (hb.set i v)⟩
theorem br_true {b : Bool} {t e : T} {m : Md} (hb : b = true) (h : wpT P R Q t m w) : wpT P R Q (.br b t e) m w := ⟨fun _ => h, fun h => by rw [hb] at h; cases h⟩
theorem br_false {b : Bool} {t e : T} {m : Md} (hb : b = false) (h : wpT P R Q e m w) : wpT P R Q (.br b t e) m w := ⟨fun h => (by rw [hb] at h; cases h), fun _ => h⟩
theorem br_both {b : Bool} {t e : T} {m : Md} (h1 : b = true → wpT P R Q t m w) (h2 : b = false → wpT P R Q e m w) : wpT P R Q (.br b t e) m w := ⟨h1, h2⟩
theorem ix_i {ad : Addr} {i : Int} {len size : Nat} {f : Addr → T} {m : Md} (h0 : 0 ≤ i) (h1 : i < len) (h : wpT P R Q (f (ad.add (i.toNat * size))) m w) : wpT P R Q (.idx (some ad) i len size f) m w := ⟨ad, rfl, h0, h1, h⟩
theorem cl_i {f : FuncId} {args : Array Value} {s : Shape} {k : s.Vars → T} {R' : Ending → World → Prop} (hc : Calls P f args w R') (h : ∀ e w', R' e w' → ∃ x, e = .returned (s.val x) ∧ wpT P R Q (k x) md w') : wpT P R Q (.call f args s k) md w := by
  rw [wpT_call]
  refine hc.mono fun e w' he => ?_
  obtain ⟨x, rfl, hx⟩ := h e w' he
  exact ⟨x, rfl, hx⟩
theorem inv_i {f : FuncId} {args : Array Value} {s : Shape} {k : s.Vars → T} {R' : Ending → World → Prop} (he : ∀ w, (callFunc f args).run P w = .ok (.enter f args) w) (hc : Calls P f args w R')
    (h : ∀ e w', R' e w' → ∃ x, e = .returned (s.val x) ∧ wpT P R Q (k x) .pl w') : wpT P R Q (.inv f args s k) .pl w := by
  rw [wpT_inv]
  refine ⟨he, hc.mono fun e w' he => ?_⟩
  obtain ⟨x, rfl, hx⟩ := h e w' he
  exact ⟨x, rfl, hx⟩
theorem yld_i {l : Nat} {args : Array Value} {k : Bool → T} {R' : Ending → World → Prop} (hc : YieldAt Fence.wide 0 P l args w R') (h : ∀ e w', R' e w' → ∃ b, e = .returned (.bool b) ∧ wpT P R Q (k b) .pl w') :
    wpT P R Q (.yld l args k) .pl w := by
  rw [wpT_yld]
  obtain ⟨fn, tmps, assign, body, hr, hR⟩ := hc
  refine ⟨fn, tmps, assign, body, hr, hR.mono fun e w' he => ?_⟩
  obtain ⟨b, rfl, hx⟩ := h e w' he
  exact hx
theorem bi_i {s : ByteArray} {i : Int} {f : Int → T} {m : Md} (h0 : 0 ≤ i) (h1 : i.toNat < s.size) (h : wpT P R Q (f ((s[i.toNat]'h1).toNat : Int)) m w) : wpT P R Q (.bidx s i f) m w := ⟨h0, h1, h⟩
end
/-! Inside a region that draws: what is read is read in every world of the class. -/
section
variable {C : World → Prop}
theorem lh_int {a : Addr} {k : IntKind} {f : Int → T} {x : Int} (h : ∀ w, C w → w.cell? a = some (.int k x)) (hk : wpT P R Q (f x) (.he C) w) : wpT P R Q (.load a (.int k) f) (.he C) w := ⟨x, h, hk⟩
theorem lh_str {a : Addr} {f : ByteArray → T} {x : ByteArray} (h : ∀ w, C w → w.cell? a = some (.string x)) (hk : wpT P R Q (f x) (.he C) w) : wpT P R Q (.load a .str f) (.he C) w := ⟨x, h, hk⟩
theorem lh_sl {a : Addr} {f : Option Addr × Nat × Nat → T} {p : Option Addr} {n c : Nat} (h : ∀ w, C w → w.cell? a = some (.slice p n c)) (hk : wpT P R Q (f (p, n, c)) (.he C) w) : wpT P R Q (.load a .sl f) (.he C) w := ⟨(p, n, c), h, hk⟩
theorem bk {k : T} (hC : C w) (hk : wpT P R Q k (.he C) w) : wpT P R Q (.back k) (.ef C) w := ⟨hC, hk⟩
end
end
/-! ### The blocks that a call has made -/
namespace Ctx
variable {w0 w w' : World} {L L' : List (Nat × List Value × TypeId)}
end Ctx
section
variable {P : Program} {R : Ending → World → Prop} {Q : Exit → List (Tmp × Value) → World → Prop} {w0 w : World} {L L' : List (Nat × List Value × TypeId)} {md : Md} [hmd : md.Runs]
end
/-! ### api.Value -/
inductive VT where
  | mk (kind int : Int) (text : ByteArray) (items : List VT)
namespace VT
def kind : VT → Int | .mk k _ _ _ => k
def int : VT → Int | .mk _ i _ _ => i
def text : VT → ByteArray | .mk _ _ s _ => s
def items : VT → List VT | .mk _ _ _ l => l
end VT
/-- The four cells of an element. -/
structure CellsV (w : World) (a : Addr) (x : VT) (p : Option Addr) (n c : Nat) : Prop where
  c0 : w.cell? a = some (.int .i64 x.kind)
  c1 : w.cell? (a.add 1) = some (.int .i64 x.int)
  c2 : w.cell? (a.add 2) = some (.string x.text)
  c3 : w.cell? (a.add 3) = some (.slice p n c)
/-- A value by itself. -/
def valV (x : VT) (p : Option Addr) (n c : Nat) : Value := .agg #[.int .i64 x.kind, .int .i64 x.int, .string x.text, .slice p n c]
def cellsV (x : VT) (p : Option Addr) (n c : Nat) : List Value := [.int .i64 x.kind, .int .i64 x.int, .string x.text, .slice p n c]
end Go.Proofs.YtkebljkdkaagfaaGreatDoor
