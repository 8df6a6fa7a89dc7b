/- quote: a text's bytes in quotes. quote: the walk. What fits into memory; a value, or none. -/
import Derived.Test.YtmdmomccibpjbaaGreatDoorRun
import Derived.Test.YtmdmomccibpjbaaGreatDoorShelf
import Derived.Lib.ConvBytes
import Derived.Lib.RuneCount
import Derived.Lib.RuneCountTail
import Derived.Lib.QuoteLoop
import Derived.Laws.RangeAny
namespace Go.Proofs.YtmdmomccibpjbaaGreatDoor
open Go Tr
open Go.Lib (byteCells strCells)
open Go.RowKit (Below)
set_option maxRecDepth 100000
/-! ### Iterators over texts -/
def Itr (w : World) (k : Nat) (s : ByteArray) (pos : Nat) : Prop := w.heap[k]? = some (.stringIter s pos)
theorem Itr.lt {w : World} {k : Nat} {s : ByteArray} {pos : Nat} (h : Itr w k s pos) : k < w.heap.size := (Array.getElem?_eq_some_iff.1 h).1
theorem Itr.ch {S : Nat → Prop} {w w' : World} {k : Nat} {s : ByteArray} {pos : Nat} (h : Itr w k s pos) (hc : Ch S w w') (hn : ¬ S k) : Itr w' k s pos := (hc.block k h.lt hn).trans h
theorem Itr.write {base b : Nat} {w w1 : World} {p p1 : Option Addr} {n c n1 c1 : Nat} {bs bs1 : List UInt8} {k : Nat} {s : ByteArray} {pos : Nat} (h : Itr w k s pos) (hb : Bld base w b p n c bs) (g : GrewW base b w p n c w1 p1 n1 c1 bs1) : Itr w1 k s pos := by
 refine h.ch g.ch fun hk => ?_
 unfold Itr at h
 rcases hk with rfl | hk
 ·obtain ⟨a,_,hb'⟩ := hb.blk
  unfold Blk at hb'
  rw [h] at hb'; cases hb'
 ·rcases hb.row.2 with ⟨h',_⟩ | ⟨g,cap,cur,h',_,hg,_⟩
  ·unfold rowS at hk; rw [h'] at hk; cases hk
  ·unfold rowS at hk
   rw [h'] at hk
   obtain rfl : g = k := by simpa [Value.ownBlock] using hk
   rw [h] at hg; cases hg
section
variable {P : Program} {R : Ending → World → Prop} {Q : Exit → List (Tmp × Value) → World → Prop} {w : World}
theorem nwI {s : ByteArray} {pos : Nat} {f : Nat → T} (h : ∀ w1,Ch No w w1 → w1.heap.size = w.heap.size + 1 → Itr w1 w.heap.size s pos → wpT P R Q (f w.heap.size) .pl w1) : wpT P R Q (.new (.stringIter s pos) f) .pl w :=
 h _ ((Ch.refl _ _).alloc _) (by simp) (by show (w.heap.push _)[w.heap.size]? = _; simp)
theorem nx_s {s : ByteArray} {pos : Nat} {k : Nat} {f : CVars [.leaf (.int .i64),.leaf (.int .i32)] → T} {fe : T} (hI : Itr w k s pos)
  (h1 : pos < s.size → ∀ w1,Ch (· = k) w w1 → w1.heap.size = w.heap.size → Itr w1 k s (pos + (Utf8.decode s pos).2) → wpT P R Q (f ((pos : Int),((Utf8.decode s pos).1 : Int),())) .pl w1)
  (h2 : ¬ pos < s.size → wpT P R Q fe .pl w) : wpT P R Q (.nxt (vNext (Instr.next (.pointer (some ⟨k,0,none⟩)) true 0)) [.leaf (.int .i64),.leaf (.int .i32)] f fe) .pl w := by
 have hlt := hI.lt
 unfold Itr at hI
 by_cases h : pos < s.size
 ·refine .inl ⟨((pos : Int),((Utf8.decode s pos).1 : Int),()),{ w with heap := w.heap.setIfInBounds k (.stringIter s (pos + (Utf8.decode s pos).2)) },?_,h1 h _ ⟨rfl,rfl,rfl,by simp,fun j hj hn => ?_⟩ (by simp) ?_⟩
  ·simp only [vNext,Instr.next,getObj,setObj,Sem.run_bind,Sem.run,hI,Result.andThen,h,if_true]
   rfl
  ·have : k ≠ j := fun e => hn e.symm
   simp [Array.getElem?_setIfInBounds,this]
  ·unfold Itr
   simp [Array.getElem?_setIfInBounds,hlt]
 ·refine .inr ⟨w,?_,h2 h⟩
  simp [vNext,Instr.next,getObj,Sem.run,hI,h,Result.andThen]
end
/-! ### What is written -/
def hexL (n : Nat) : UInt8 := if n < 10 then UInt8.ofNat (48 + n) else UInt8.ofNat (87 + n)
def hexB (u : UInt8) : List UInt8 := [92,120,hexL (u.toNat / 16),hexL (u.toNat % 16)]
def plainR (c wd : Nat) : Bool := (decide (32 ≤ c) && decide (c ≤ 126)) || (decide (160 ≤ c) && decide (1 < wd))
def pieceQ (s : ByteArray) (pos c wd : Nat) : List UInt8 :=
 if c = 34 ∨ c = 92 then [92,s.data.toList.getD pos 0]
 else if c = 10 then [92,110]
 else if c = 9 then [92,116]
 else if plainR c wd then Lib.encodeRune c
 else ((s.data.toList.drop pos).take wd).flatMap hexB
def quoteF (s : ByteArray) : Nat → Nat → List UInt8
 | 0,_ => []
 | k + 1,pos => if pos < s.size then pieceQ s pos (Utf8.decode s pos).1 (Utf8.decode s pos).2 ++ quoteF s k (pos + (Utf8.decode s pos).2) else []
/-- A text in quotes. -/
def quoteB (s : ByteArray) : List UInt8 := 34 :: (quoteF s s.size 0 ++ [34])
/-! the tree of function 81 -/
abbrev fx81_3 (qa0 : Addr) (qs1 : ByteArray) (n2 : Nat) : List (Tmp × Value) := [(0,.pointer (some qa0)),(1,.string qs1),(13,.pointer (some ⟨n2,0,none⟩))]
abbrev m81_3 : List (Tmp × Comp) := []
abbrev mx81_3 : List (Tmp × Comp) := []
abbrev mr81_3 : List (Tmp × Comp) := []
abbrev fx81_6 (qa0 : Addr) (qs1 : ByteArray) (n2 : Nat) (r4 : Int × Int × Unit) (r5 : Int × Int × Unit) : List (Tmp × Value) := [(0,.pointer (some qa0)),(1,.string qs1),(4,.int .i64 r4.1),(5,.int .i32 r4.2.1),(7,.int .i64 r5.2.1),(13,.pointer (some ⟨n2,0,none⟩))]
abbrev mx81_6 : List (Tmp × Comp) := [(50,.leaf .bool)]
def s81_6 : Script := .sym (.lit (.lit .nil)) (.lit (.lit .nil))
theorem t81_6 (qa0 : Addr) (qs1 : ByteArray) (n2 : Nat) (r4 : Int × Int × Unit) (r5 : Int × Int × Unit) (gg6 : Nat → Value) : pieceT Tryz.prog (at_ Tryz.f81 [1,0,1,0,0,1,1,0,1,1,0,0]) 83 (fx81_6 qa0 qs1 n2 r4 r5) gg6 (mx81_6.map (·.1)) [] [] s81_6 = .br (r4.snd.fst == 34) (.fin .normal [(50,.bool true)]) (.fin .normal [(50,.bool (r4.snd.fst == 92))]) := by kernel_rfl
abbrev fx81_16 (qa0 : Addr) (qs1 : ByteArray) (n2 : Nat) (l15 : Option Addr × Nat × Nat) : List (Tmp × Value) := [(0,.pointer (some qa0)),(1,.string qs1),(13,.pointer (some ⟨n2,0,none⟩)),(31,.slice l15.1 l15.2.1 l15.2.2),(32,.int .i64 (↑l15.snd.fst : Int))]
abbrev m81_16 : List (Tmp × Comp) := [(33,.leaf (.int .i64))]
abbrev mx81_16 : List (Tmp × Comp) := []
abbrev mr81_16 : List (Tmp × Comp) := []
def s81_16 : Script := .sym (.ix (.ld (.int .u8) (.cl (.tup [.leaf (.int .i64),.leaf .any]) (.ix (.cl (.one (.leaf .any)) (.ix (.cl (.one (.leaf .any)) .nil))))))) .nil
theorem t81_16 (qa0 : Addr) (qs1 : ByteArray) (n2 : Nat) (l15 : Option Addr × Nat × Nat) (x_33 : Int) (gg16 : Nat → Value) : pieceT Tryz.prog (at_ Tryz.f81 [1,0,1,0,0,1,1,0,1,1,0,1,1,1,1,1,1,1,1,1,0,0]) 83 (fx81_16 qa0 qs1 n2 l15 ++ mvals m81_16 (x_33,())) gg16 (m81_16.map (·.1)) (mx81_16.map (·.1)) (mr81_16.map (·.1)) s81_16 = .br (Decidable.decide (x_33 < (↑l15.snd.fst : Int))) (.idx l15.1 x_33 l15.2.1 1 (fun a17 => .load a17 (.int .u8) (fun x18 => .call 28 #[.pointer (some qa0),.string (bytesL [92,120])] (.tup [.leaf (.int .i64),.leaf .any]) (fun r19 => .bidx (bytesL [48,49,50,51,52,53,54,55,56,57,97,98,99,100,101,102]) (x18.fdiv (2 ^ Min.min (Int.toNat 4) IntKind.u8.bits)) (fun c20 => .call 27 #[.pointer (some qa0),.int .u8 c20] (.one (.leaf .any)) (fun v21 => .bidx (bytesL [48,49,50,51,52,53,54,55,56,57,97,98,99,100,101,102]) (IntKind.u8.wrap (↑(BitVec.ofInt IntKind.u8.bits x18 &&& BitVec.ofInt IntKind.u8.bits 15).toNat : Int)) (fun c22 => .call 27 #[.pointer (some qa0),.int .u8 c22] (.one (.leaf .any)) (fun v23 => .fin .normal [(33,.int .i64 (IntKind.i64.wrap (x_33 + 1)))])))))))) (.fin (.exit 3) []) := by kernel_rfl
def s81_3 : Script := .nx [.leaf (.int .i64),.leaf (.int .i32)] (.lit (.nd (.cl (.tup [.leaf (.int .i32),.leaf (.int .i64)]) (.ct 0 [0,1,4,5,7,13] mx81_6 (.sym (.cl (.one (.leaf .any)) (.ix (.cl (.one (.leaf .any)) .nil))) (.sym (.cl (.tup [.leaf (.int .i64),.leaf .any]) .nil) (.sym (.cl (.tup [.leaf (.int .i64),.leaf .any]) .nil) (.cl (.one (.leaf .bool)) (.sym (.cl (.tup [.leaf (.int .i64),.leaf .any]) .nil) (.nop (.nop (.nop (.nop (.nop (.nd (.rn (.one (.leaf .sl)) (.lp 3 [0,1,13,31,32] [33] mx81_16 mr81_16 .nil .nil))))))))))))))))) (.lit .nil)
theorem t81_3 (qa0 : Addr) (qs1 : ByteArray) (n2 : Nat) (gg3 : Nat → Value) : pieceT Tryz.prog (at_ Tryz.f81 [1,0,1,0,0]) 83 (fx81_3 qa0 qs1 n2 ++ mvals m81_3 (())) gg3 (m81_3.map (·.1)) (mx81_3.map (·.1)) (mr81_3.map (·.1)) s81_3 = .nxt (vNext (Instr.next (.pointer (some ⟨n2,0,none⟩)) true 0)) [.leaf (.int .i64),.leaf (.int .i32)] (fun r4 => .need (Decidable.decide (0 ≤ r4.fst ∧ r4.fst ≤ (↑qs1.size : Int) ∧ (↑qs1.size : Int) ≤ (↑qs1.size : Int))) (.call 92 #[.string (qs1.extract r4.fst.toNat qs1.size)] (.tup [.leaf (.int .i32),.leaf (.int .i64)]) (fun r5 => .cut (at_ Tryz.f81 [1,0,1,0,0,1,1,0,1,1,0,0]) 83 (fx81_6 qa0 qs1 n2 r4 r5) mx81_6 (fun u7 g7 => .br u7.1 (.call 27 #[.pointer (some qa0),.int .u8 92] (.one (.leaf .any)) (fun v8 => .bidx qs1 r4.1 (fun c9 => .call 27 #[.pointer (some qa0),.int .u8 c9] (.one (.leaf .any)) (fun v10 => .fin .normal [])))) (.br (r4.snd.fst == 10) (.call 28 #[.pointer (some qa0),.string (bytesL [92,110])] (.tup [.leaf (.int .i64),.leaf .any]) (fun r11 => .fin .normal [])) (.br (r4.snd.fst == 9) (.call 28 #[.pointer (some qa0),.string (bytesL [92,116])] (.tup [.leaf (.int .i64),.leaf .any]) (fun r12 => .fin .normal [])) (.call 93 #[.int .i32 r4.2.1,.int .i64 r5.2.1] (.one (.leaf .bool)) (fun b13 => .br b13 (.call 94 #[.pointer (some qa0),.int .i32 r4.2.1] (.tup [.leaf (.int .i64),.leaf .any]) (fun r14 => .fin .normal [])) (.need (Decidable.decide (0 ≤ r4.fst ∧ r4.fst ≤ IntKind.i64.wrap (r4.fst + r5.snd.fst) ∧ IntKind.i64.wrap (r4.fst + r5.snd.fst) ≤ (↑qs1.size : Int))) (.run (vNext (convert 9 76 (.string (qs1.extract r4.fst.toNat (IntKind.i64.wrap (r4.fst + r5.snd.fst)).toNat)))) (.one (.leaf .sl)) (fun l15 => .loop (at_ Tryz.f81 [1,0,1,0,0,1,1,0,1,1,0,1,1,1,1,1,1,1,1,1,0,0]) 83 (fx81_16 qa0 qs1 n2 l15) [(33,.int .i64 0)] mx81_16 mr81_16 3 (fun u24 g24 => .fin .normal []) (fun u25 g25 => .stuck)))))))))))) (.fin (.exit 0) []) := by kernel_rfl
def s81 : Script := .cl (.one (.leaf .any)) (.lp 0 [0,1,13] [] mx81_3 mr81_3 (.cl (.one (.leaf .any)) .nil) .nil)
theorem t81 (qa0 : Addr) (qs1 : ByteArray) : fnT Tryz.prog Tryz.f81 #[.pointer (some qa0),.string qs1] s81 = .call 27 #[.pointer (some qa0),.int .u8 34] (.one (.leaf .any)) (fun v1 => .new (.stringIter qs1 0) (fun n2 => .loop (at_ Tryz.f81 [1,0,1,0,0]) 83 (fx81_3 qa0 qs1 n2) [] mx81_3 mr81_3 0 (fun u26 g26 => .call 27 #[.pointer (some qa0),.int .u8 34] (.one (.leaf .any)) (fun v27 => .done (.returned (.tuple #[])))) (fun u28 g28 => .stuck))) := by kernel_rfl
/-! the tree of function 93 -/
def s93 : Script := .sym (.lit (.lit (.sym (.lit (.lit (.lit (.lit .nil)))) (.lit (.lit (.sym (.lit (.lit (.lit (.lit .nil)))) (.lit (.lit (.lit (.lit .nil)))))))))) (.lit (.lit (.lit (.lit (.lit (.sym (.lit (.lit (.lit (.lit .nil)))) (.lit (.lit (.lit (.lit .nil))))))))))
theorem t93 (qx0 : Int) (qx1 : Int) : fnT Tryz.prog Tryz.f93 #[.int .i32 qx0,.int .i64 qx1] s93 = .br (Decidable.decide (qx0 ≥ 32)) (.br (Decidable.decide (qx0 ≤ 126)) (.done (.returned (.bool true))) (.br (Decidable.decide (qx0 ≥ 160)) (.done (.returned (.bool (Decidable.decide (qx1 > 1))))) (.done (.returned (.bool false))))) (.br (Decidable.decide (qx0 ≥ 160)) (.done (.returned (.bool (Decidable.decide (qx1 > 1))))) (.done (.returned (.bool false)))) := by kernel_rfl
theorem plain_any (c wd : Int) (h0 : 0 ≤ c) (h1 : 0 ≤ wd) (w : World) : Calls Tryz.prog 93 #[.int .i32 c,.int .i64 wd] w fun e w' => e = .returned (.bool (plainR c.toNat wd.toNat)) ∧ w' = w := by
 refine calls_of_fnT mixed Tryz.func93 (s := s93) ?_
 rw [t93]
 obtain ⟨m,rfl⟩ := Int.eq_ofNat_of_zero_le h0
 obtain ⟨n,rfl⟩ := Int.eq_ofNat_of_zero_le h1
 simp only [Int.toNat_natCast]
 refine br_both (fun e => br_both (fun e' => ⟨?_,rfl⟩) fun e' => br_both (fun e'' => ⟨?_,rfl⟩) fun e'' => ⟨?_,rfl⟩) fun e => br_both (fun e' => ⟨?_,rfl⟩) fun e' => ⟨?_,rfl⟩
 ·have e := of_decide_eq_true e
  have e' := of_decide_eq_true e'
  have h1 : 32 ≤ m := by omega
  have h2 : m ≤ 126 := by omega
  simp [plainR,h1,h2]
 ·have e := of_decide_eq_true e
  have e' := of_decide_eq_false e'
  have e'' := of_decide_eq_true e''
  have h2 : ¬ m ≤ 126 := by omega
  have h3 : 160 ≤ m := by omega
  simp [plainR,h2,h3]
  omega
 ·have e' := of_decide_eq_false e'
  have e'' := of_decide_eq_false e''
  have h2 : ¬ m ≤ 126 := by omega
  have h3 : ¬ 160 ≤ m := by omega
  simp [plainR,h2,h3]
 ·have e' := of_decide_eq_true e'
  have h2 : ¬ m ≤ 126 := by omega
  have h3 : 160 ≤ m := by omega
  simp [plainR,h2,h3]
  omega
 ·have e := of_decide_eq_false e
  have e' := of_decide_eq_false e'
  have h2 : ¬ 32 ≤ m := by omega
  have h3 : ¬ 160 ≤ m := by omega
  simp [plainR,h2,h3]
theorem Tabs_ch {w w' : World} {base : Nat} (h : Lib.Utf8Tabs 5 6 w) (hc : Ch (base ≤ ·) w w') (hb : 10 ≤ base) : Lib.Utf8Tabs 5 6 w' := by
 refine ⟨fun c hc' => hc.cellv (h.1 c hc') (fun (h : base ≤ 5) => by omega),fun i hi => ?_⟩
 obtain ⟨h1,h2⟩ := h.2 i hi
 exact ⟨hc.cellv h1 (fun (h : base ≤ 6) => by omega),hc.cellv h2 (fun (h : base ≤ 6) => by omega)⟩
theorem quoteF_fuel (s : ByteArray) : ∀ (k k' pos : Nat),s.size - pos ≤ k → s.size - pos ≤ k' → quoteF s k pos = quoteF s k' pos
 | 0,0,_,_,_ => rfl
 | 0,k' + 1,pos,h,_ => by
  have : ¬ pos < s.size := by omega
  simp [quoteF,this]
 | k + 1,0,pos,_,h => by
  have : ¬ pos < s.size := by omega
  simp [quoteF,this]
 | k + 1,k' + 1,pos,h,h' => by
  simp only [quoteF]
  by_cases hp : pos < s.size
  ·rw [if_pos hp,if_pos hp]
   have := Lib.decode_width_pos s pos hp
   rw [quoteF_fuel s k k' _ (by omega) (by omega)]
  ·rw [if_neg hp,if_neg hp]
theorem quoteF_step (s : ByteArray) (pos : Nat) (h : pos < s.size) : quoteF s s.size pos = pieceQ s pos (Utf8.decode s pos).1 (Utf8.decode s pos).2 ++ quoteF s s.size (pos + (Utf8.decode s pos).2) := by
 obtain ⟨k,hk⟩ : ∃ k,s.size = k + 1 := ⟨s.size - 1,by omega⟩
 have := Lib.decode_width_pos s pos h
 conv => lhs; rw [hk,quoteF,if_pos h]
 rw [quoteF_fuel s k s.size _ (by omega) (by omega)]
theorem hexB_len (l : List UInt8) : (l.flatMap hexB).length = 4 * l.length := by
 induction l with
 | nil => rfl
 | cons a r ih => simp only [List.flatMap_cons,List.length_append,ih,List.length_cons]; simp [hexB]; omega
theorem pieceQ_len (s : ByteArray) (pos c wd : Nat) (hw : 1 ≤ wd) : (pieceQ s pos c wd).length ≤ 4 * wd := by
 unfold pieceQ
 split
 ·simp; omega
 split
 ·simp; omega
 split
 ·simp; omega
 split
 ·have := (Lib.runeCells_le c).2
  rw [Lib.runeCells_length] at this
  omega
 ·rw [hexB_len,List.length_take]; omega
theorem decode_in (s : ByteArray) (pos : Nat) (h : pos < s.size) : Lib.decodeGo (s.extract pos s.size) = Utf8.decode s pos ∧ pos + (Utf8.decode s pos).2 ≤ s.size := by
 have hsz : (s.extract pos s.size).size = s.size - pos := by simp [ByteArray.size_extract]
 have ht := Lib.tail_decode s pos 0
 rw [Nat.add_zero] at ht
 have hw := Lib.width_le (s.extract pos s.size) (by omega)
 rw [ht,hsz] at hw
 refine ⟨?_,by omega⟩
 unfold Lib.decodeGo
 rw [if_neg (by omega),ht]
theorem hexL_at (n : Nat) (h : n < 16) : ∃ hlt : n < (bytesL [48,49,50,51,52,53,54,55,56,57,97,98,99,100,101,102]).size,(bytesL [48,49,50,51,52,53,54,55,56,57,97,98,99,100,101,102])[n]'hlt = hexL n := by
 have key : ∀ m : Fin 16,(bytesL [48,49,50,51,52,53,54,55,56,57,97,98,99,100,101,102])[m.val]'m.isLt = hexL m.val := by decide
 exact ⟨h,key ⟨n,h⟩⟩
theorem Bld.itr {base b : Nat} {w w' : World} {p : Option Addr} {n c : Nat} {bs : List UInt8} {k : Nat} {s : ByteArray} {pos : Nat} (h : Bld base w b p n c bs) (hI : Itr w k s pos) (hc : Ch (· = k) w w') : Bld base w' b p n c bs := by
 obtain ⟨a,ha,hb⟩ := h.blk
 unfold Itr at hI
 refine ⟨⟨a,ha,hb.ch hc (fun e => ?_)⟩,h.row.ch hc (fun j hj e => ?_),h.lo⟩
 ·subst e
  unfold Blk at hb
  rw [hI] at hb; cases hb
 ·subst e
  rcases h.row.2 with ⟨h',_⟩ | ⟨g,cap,cur,h',_,hg,_⟩
  ·unfold rowS at hj; rw [h'] at hj; cases hj
  ·unfold rowS at hj
   rw [h'] at hj
   obtain rfl : g = _ := by simpa [Value.ownBlock] using hj
   rw [hI] at hg; cases hg
theorem GrewW.itr {base b : Nat} {w w1 w2 : World} {p p1 : Option Addr} {n c n1 c1 : Nat} {bs : List UInt8} {k : Nat} {s : ByteArray} {pos : Nat} (g : GrewW base b w p n c w1 p1 n1 c1 bs) (hI : Itr w1 k s pos) (hc : Ch (· = k) w1 w2) (hk : w.heap.size ≤ k) : GrewW base b w p n c w2 p1 n1 c1 bs :=
 ⟨g.bld.itr hI hc,g.ch.then_ hc (fun i hi (e : i = k) => by omega),g.lies⟩
end Go.Proofs.YtmdmomccibpjbaaGreatDoor
namespace Go.Proofs.YtmdmomccibpjbaaGreatDoor
open Go Tr
open Go.Lib (byteCells strCells)
open Go.RowKit (Below)
set_option maxRecDepth 100000
theorem bi_hex {R : Ending → World → Prop} {Q : Exit → List (Tmp × Value) → World → Prop} {w : World} {i : Int} {f : Int → T} (n : Nat) (hi : i = n) (hn : n < 16) (h : wpT Tryz.prog R Q (f ((hexL n).toNat : Int)) .pl w) : wpT Tryz.prog R Q (.bidx (bytesL [48,49,50,51,52,53,54,55,56,57,97,98,99,100,101,102]) i f) .pl w := by
 subst hi
 obtain ⟨hlt,he⟩ := hexL_at n hn
 refine bi_i (by omega) (by rw [Int.toNat_natCast]; exact hlt) ?_
 have : (bytesL [48,49,50,51,52,53,54,55,56,57,97,98,99,100,101,102])[((n : Int)).toNat]'(by rw [Int.toNat_natCast]; exact hlt) = hexL n := he
 rw [this]
 exact h
theorem hi4 (u : UInt8) : ((u.toNat : Nat) : Int).fdiv (2 ^ Min.min (Int.toNat 4) IntKind.u8.bits) = ((u.toNat / 16 : Nat) : Int) := by
 rw [show (2 : Int) ^ Min.min (Int.toNat 4) IntKind.u8.bits = 16 by decide,Int.fdiv_eq_ediv_of_nonneg _ (by decide)]
 omega
theorem lo4 (u : UInt8) : IntKind.u8.wrap (((BitVec.ofInt IntKind.u8.bits ((u.toNat : Nat) : Int) &&& BitVec.ofInt IntKind.u8.bits 15).toNat : Nat) : Int) = ((u.toNat % 16 : Nat) : Int) := by
 have key : ∀ n : Fin 256,(BitVec.ofInt 8 (n.val : Int) &&& BitVec.ofInt 8 15).toNat = n.val % 16 := by decide
 have h := key ⟨u.toNat,u.toNat_lt⟩
 rw [IntKind.wrap_u8']
 show (((BitVec.ofInt 8 ((u.toNat : Nat) : Int) &&& BitVec.ofInt 8 15).toNat : Nat) : Int) % 256 = _
 simp only at h
 rw [h]; omega
theorem hex_loop {R : Ending → World → Prop} {Q : Exit → List (Tmp × Value) → World → Prop} {kx : MVars mx81_16 → (Nat → Value) → T} {kr : MVars mr81_16 → (Nat → Value) → T} (base b : Nat) (w : World) (p : Option Addr) (n c : Nat) (bs : List UInt8) (hb : Bld base w b p n c bs) (hw : base ≤ w.heap.size)
  (s : ByteArray) (n2 g gl gc : Nat) (l : List UInt8) (hl : l.length = gl) (hcell : ∀ (j : Nat) (u : UInt8),l[j]? = some u → w.cell? ⟨g,j,none⟩ = some (.int .u8 u.toNat)) (hlt : g < w.heap.size) (hgb : g ≠ b) (hgr : ¬ rowS p n c g) (hsz : n + 4 * gl ≤ 140737488355328)
  (hk : ∀ w' q m d g',GrewW base b w p n c w' q m d (bs ++ l.flatMap hexB) → wpT Tryz.prog R Q (kx () g') .pl w') :
  wpT Tryz.prog R Q (.loop (at_ Tryz.f81 [1,0,1,0,0,1,1,0,1,1,0,1,1,1,1,1,1,1,1,1,0,0]) 83 (fx81_16 ⟨b,0,none⟩ s n2 (some ⟨g,0,none⟩,gl,gc)) [(33,.int .i64 0)] mx81_16 mr81_16 3 kx kr) .pl w := by
 refine loop_i mixed m81_16 s81_16 (by kernel_rfl) (by kernel_rfl)
  (fun (v : Int × Unit) w' => 0 ≤ v.1 ∧ v.1 ≤ gl ∧ ∃ q m d,GrewW base b w p n c w' q m d (bs ++ (l.take v.1.toNat).flatMap hexB)) (fun (v : Int × Unit) _ => gl - v.1.toNat) (0,()) rfl ⟨by simp,by simp,p,n,c,by simpa using GrewW.refl hb⟩ ?_
 rintro ⟨(i : Int),⟨⟩⟩ g' w1 ⟨(i0 : 0 ≤ i),(i1 : i ≤ gl),q,m,d,g1⟩
 rw [t81_16]
 dsimp only at g1 ⊢
 refine br_both (fun e => ?_) fun e => ?_
 ·have hi : i < gl := of_decide_eq_true e
  obtain ⟨u,hu⟩ : ∃ u,l[i.toNat]? = some u := ⟨_,List.getElem?_eq_getElem (by omega)⟩
  have hm := g1.bld.len
  have hn := hb.len
  simp only [List.length_append,hexB_len,List.length_take] at hm
  have hc : w1.cell? ((⟨g,0,none⟩ : Addr).add (i.toNat * 1)) = some (.int .u8 u.toNat) := by
   rw [addr_add,Nat.zero_add,Nat.mul_one]
   exact g1.ch.cellv (hcell _ _ hu) (fun h => by
    rcases h with h | h
    ·exact hgb h
    ·exact hgr h)
  have hb1 : base ≤ w1.heap.size := Nat.le_trans hw g1.ch.size
  refine ix_i i0 hi (ld_int hc ?_)
  refine cl_i (writeString_any base b w1 q m d _ (bytesL [92,120]) g1.bld hb1 (by show m + 2 ≤ _; omega)) ?_
  rintro e w2 ⟨rfl,q2,m2,d2,g2⟩
  refine ⟨((2 : Int),.nilIface,()),rfl,?_⟩
  have hm2 := g2.bld.len
  simp only [List.length_append,hexB_len,List.length_take] at hm2
  have e2 : (bytesL [92,120]).data.toList.length = 2 := rfl
  rw [e2] at hm2
  refine bi_hex (u.toNat / 16) (hi4 u) (by have := u.toNat_lt; omega) ?_
  refine cl_i (writeByte_any base b w2 q2 m2 d2 _ (hexL (u.toNat / 16)) g2.bld (Nat.le_trans hb1 g2.ch.size) (by omega)) ?_
  rintro e w3 ⟨rfl,q3,m3,d3,g3⟩
  refine ⟨.nilIface,rfl,?_⟩
  have hm3 := g3.bld.len
  simp only [List.length_append,hexB_len,List.length_take,List.length_cons,List.length_nil] at hm3
  refine bi_hex (u.toNat % 16) (lo4 u) (by omega) ?_
  refine cl_i (writeByte_any base b w3 q3 m3 d3 _ (hexL (u.toNat % 16)) g3.bld (Nat.le_trans (Nat.le_trans hb1 g2.ch.size) g3.ch.size) (by omega)) ?_
  rintro e w4 ⟨rfl,q4,m4,d4,g4⟩
  refine ⟨.nilIface,rfl,(i + 1,()),?_,⟨by dsimp only; omega,by dsimp only; omega,q4,m4,d4,?_⟩,by dsimp only; omega⟩
  ·rw [wrap_succ i0 (by omega)]; rfl
  ·dsimp only
   rw [show (i + 1).toNat = i.toNat + 1 by omega,List.take_add_one,hu]
   have := GrewW.trans hb g1 (GrewW.trans g1.bld g2 (GrewW.trans g2.bld g3 g4))
   simpa [hexB] using this
 ·have hi : ¬ i < gl := of_decide_eq_false e
  refine ⟨rfl,(),rfl,fun g'' => hk w1 q m d g'' ?_⟩
  rw [List.take_of_length_le (by omega)] at g1
  exact g1
theorem run_bytes (w : World) (s : ByteArray) : (vNext (convert 9 76 (.string s))).run Tryz.prog w = .ok (.value (.slice (some ⟨w.heap.size,0,none⟩) s.size (grownCap w s.size 0 5))) (Lib.bytesWorld w 5 s) := by
 unfold vNext
 simp only [Sem.run_bind,Lib.run_convert_string_bytes (P := Tryz.prog) w 9 76 5 s (u := .string) (by kernel_rfl) (by kernel_rfl) (by kernel_rfl),Result.andThen]
 rfl
theorem ch_bytes (w : World) (s : ByteArray) : Ch No w (Lib.bytesWorld w 5 s) := ⟨rfl,rfl,rfl,by rw [Lib.bytesWorld_size]; omega,fun k hk _ => Lib.bytesWorld_at_old w 5 s k hk⟩
set_option maxHeartbeats 1000000 in
theorem quote_any (base b : Nat) (w : World) (p : Option Addr) (n c : Nat) (bs : List UInt8) (s : ByteArray) (h : Bld base w b p n c bs) (hw : base ≤ w.heap.size) (hbase : 10 ≤ base) (hT : Lib.Utf8Tabs 5 6 w) (hsz : n + 4 * s.size + 6 ≤ 140737488355328) :
  Calls Tryz.prog 81 #[.pointer (some ⟨b,0,none⟩),.string s] w fun e w' => e = .returned (.tuple #[]) ∧ ∃ q m d,GrewW base b w p n c w' q m d (bs ++ quoteB s) := by
 refine calls_of_fnT mixed Tryz.func81 (s := s81) ?_
 rw [t81]
 have hn := h.len
 refine cl_i (writeByte_any base b w p n c bs 34 h hw (by omega)) ?_
 rintro e w1 ⟨rfl,q1,m1,d1,g1⟩
 refine ⟨.nilIface,rfl,nwI fun w2 h2 z2 I2 => ?_⟩
 have hkw : w.heap.size ≤ w1.heap.size := g1.ch.size
 generalize hkk : w1.heap.size = k at *
 refine loop_i mixed m81_3 s81_3 (by kernel_rfl) (by kernel_rfl)
  (fun (v : Unit) w' => ∃ pos q m d pre,GrewW base b w p n c w' q m d (bs ++ 34 :: pre) ∧ Itr w' k s pos ∧ pos ≤ s.size ∧ pre ++ quoteF s s.size pos = quoteF s s.size 0 ∧ pre.length ≤ 4 * pos) (fun (v : Unit) w' => s.size - w'.iterPos k) () rfl ⟨0,q1,m1,d1,[],g1.then_no h2,I2,by omega,rfl,by simp⟩ ?_
 rintro ⟨⟩ g w3 ⟨pos,q3,m3,d3,pre,g3,I3,hpos,hs,hpre⟩
 rw [t81_3]
 have hip : w3.iterPos k = pos := by unfold World.iterPos; unfold Itr at I3; rw [I3]
 have hm3 := g3.bld.len
 simp only [List.length_append,List.length_cons] at hm3
 refine nx_s I3 (fun hp w4 h4 z4 I4 => ?_) (fun hp => ?_)
 ·obtain ⟨hdec,hin⟩ := decode_in s pos hp
  have hw1 := Lib.decode_width_pos s pos hp
  have hc32 := decode_le s pos
  have g4 := g3.itr I3 h4 hkw
  generalize hcv : (Utf8.decode s pos).1 = cv at *
  generalize hwd : (Utf8.decode s pos).2 = wd at *
  have hb4 : base ≤ w4.heap.size := Nat.le_trans hw g4.ch.size
  refine ⟨decide_eq_true ⟨Int.natCast_nonneg pos,Int.ofNat_le.2 hpos,Int.le_refl _⟩,?_⟩
  dsimp only
  rw [Int.toNat_natCast]
  refine cl_i (Tryz.utf8_DecodeRuneInString (s.extract pos s.size) w4 (Tabs_ch hT (g4.below h) hbase)) ?_
  rintro e w5 ⟨rfl,hbel⟩
  have h5 : Ch No w4 w5 := Ch.of_below hbel
  have I5 := I4.ch h5 (fun h => h)
  have g5 := g4.then_no h5
  have hb5 : base ≤ w5.heap.size := Nat.le_trans hb4 h5.size
  refine ⟨((cv : Int),(wd : Int),()),by rw [hdec,hcv,hwd]; rfl,?_⟩
  -- behind a piece
  have fin : ∀ w6 q6 m6 d6,GrewW base b w5 q3 m3 d3 w6 q6 m6 d6 (bs ++ 34 :: pre ++ pieceQ s pos cv wd) → ∃ v' : MVars m81_3,([] : List (Tmp × Value)) = mvals m81_3 v' ∧ ((∃ pos q m d pre,GrewW base b w p n c w6 q m d (bs ++ 34 :: pre) ∧ Itr w6 k s pos ∧ pos ≤ s.size ∧ pre ++ quoteF s s.size pos = quoteF s s.size 0 ∧ pre.length ≤ 4 * pos) ∧ s.size - w6.iterPos k < s.size - w3.iterPos k) := by
   intro w6 q6 m6 d6 g6
   have I6 : Itr w6 k s (pos + wd) := I5.write g5.bld g6
   have hl := pieceQ_len s pos cv wd hw1
   refine ⟨(),rfl,⟨pos + wd,q6,m6,d6,pre ++ pieceQ s pos cv wd,by simpa using GrewW.trans h g5 g6,I6,hin,?_,by rw [List.length_append]; omega⟩,?_⟩
   ·rw [← hs,quoteF_step s pos hp,hcv,hwd,List.append_assoc]
   ·have : w6.iterPos k = pos + wd := by unfold World.iterPos; unfold Itr at I6; rw [I6]
    rw [this,hip]; omega
  refine cut_i mixed s81_6 (fun (v : Bool × Unit) w' => w' = w5 ∧ v.1 = decide (cv = 34 ∨ cv = 92)) (by kernel_rfl) (fun g => ?_) ?_
  ·rw [t81_6]
   dsimp only
   refine br_both (fun e => ⟨rfl,(true,()),rfl,rfl,?_⟩) fun e => ⟨rfl,(_,()),rfl,rfl,?_⟩
   ·have e : (cv : Int) = 34 := by simpa using e
    exact (decide_eq_true (.inl (by omega))).symm
   ·have e : ¬ (cv : Int) = 34 := by simpa using e
    rw [Bool.eq_iff_iff,decide_eq_true_eq,beq_iff_eq]
    omega
  rintro ⟨u,⟨⟩⟩ g' w5' ⟨rfl,hu⟩
  dsimp only at hu
  subst hu
  dsimp only
  refine br_both (fun e => ?_) fun e => ?_
  ·have e := of_decide_eq_true e
   refine cl_i (writeByte_any base b w5' q3 m3 d3 _ 92 g5.bld hb5 (by omega)) ?_
   rintro e' w6 ⟨rfl,q6,m6,d6,g6⟩
   refine ⟨.nilIface,rfl,?_⟩
   have hm6 := g6.bld.len
   simp only [List.length_append,List.length_cons,List.length_nil] at hm6
   refine bi_i (by omega) (by rw [Int.toNat_natCast]; exact hp) ?_
   refine cl_i (writeByte_any base b w6 q6 m6 d6 _ (s[((pos : Int)).toNat]'(by rw [Int.toNat_natCast]; exact hp)) g6.bld (Nat.le_trans hb5 g6.ch.size) (by omega)) ?_
   rintro e' w7 ⟨rfl,q7,m7,d7,g7⟩
   refine ⟨.nilIface,rfl,fin w7 q7 m7 d7 ?_⟩
   have hpc : pieceQ s pos cv wd = [92,s[((pos : Int)).toNat]'(by rw [Int.toNat_natCast]; exact hp)] := by
    unfold pieceQ
    rw [if_pos e]
    congr 2
    have hpl : pos < s.data.toList.length := by simpa using hp
    simp [List.getD,List.getElem?_eq_getElem hpl]
    rfl
   rw [hpc]
   simpa using GrewW.trans g5.bld g6 g7
  have e1 := of_decide_eq_false e
  refine br_both (fun e => ?_) fun e => ?_
  ·have e : cv = 10 := by have : (cv : Int) = 10 := by simpa using e
                          omega
   refine cl_i (writeString_any base b w5' q3 m3 d3 _ (bytesL [92,110]) g5.bld hb5 (by show m3 + 2 ≤ _; omega)) ?_
   rintro e' w6 ⟨rfl,q6,m6,d6,g6⟩
   refine ⟨((2 : Int),.nilIface,()),rfl,fin w6 q6 m6 d6 ?_⟩
   have hpc : pieceQ s pos cv wd = [92,110] := by unfold pieceQ; rw [if_neg e1,if_pos e]
   rw [hpc]
   exact g6
  have e2 : ¬ cv = 10 := by have : ¬ (cv : Int) = 10 := by simpa using e
                            omega
  refine br_both (fun e => ?_) fun e => ?_
  ·have e : cv = 9 := by have : (cv : Int) = 9 := by simpa using e
                         omega
   refine cl_i (writeString_any base b w5' q3 m3 d3 _ (bytesL [92,116]) g5.bld hb5 (by show m3 + 2 ≤ _; omega)) ?_
   rintro e' w6 ⟨rfl,q6,m6,d6,g6⟩
   refine ⟨((2 : Int),.nilIface,()),rfl,fin w6 q6 m6 d6 ?_⟩
   have hpc : pieceQ s pos cv wd = [92,116] := by unfold pieceQ; rw [if_neg e1,if_neg e2,if_pos e]
   rw [hpc]
   exact g6
  have e3 : ¬ cv = 9 := by have : ¬ (cv : Int) = 9 := by simpa using e
                           omega
  refine cl_i (plain_any (cv : Int) (wd : Int) (by omega) (by omega) w5') ?_
  rintro e' w6 ⟨rfl,rfl⟩
  rw [Int.toNat_natCast,Int.toNat_natCast]
  refine ⟨_,rfl,br_both (fun e => ?_) fun e => ?_⟩
  ·refine cl_i (writeRune_any base b w6 q3 m3 d3 _ (cv : Int) g5.bld hb5 (by omega) (by omega) (by omega)) ?_
   rintro e' w7 ⟨⟨kk,rfl⟩,q7,m7,d7,g7⟩
   refine ⟨(kk,.nilIface,()),rfl,fin w7 q7 m7 d7 ?_⟩
   have hpc : pieceQ s pos cv wd = Lib.encodeRune cv := by unfold pieceQ; rw [if_neg e1,if_neg e2,if_neg e3,if_pos e]
   rw [hpc]
   exact g7
  ·have hwr : IntKind.i64.wrap ((pos : Int) + wd) = ((pos + wd : Nat) : Int) := by rw [IntKind.wrap_i64]; omega
   refine ⟨decide_eq_true ⟨Int.natCast_nonneg pos,by rw [hwr]; exact Int.ofNat_le.2 (by omega),by rw [hwr]; exact Int.ofNat_le.2 hin⟩,?_⟩
   simp only [hwr,Int.toNat_natCast]
   have hcs := ch_bytes w6 (s.extract pos (pos + wd))
   have hes : (s.extract pos (pos + wd)).size = wd := by simp [ByteArray.size_extract]; omega
   have hel : (s.extract pos (pos + wd)).data.toList = (s.data.toList.drop pos).take wd := by
    simp [ByteArray.data_extract,Array.toList_extract,List.extract_eq_take_drop]
   refine t_run (x := (some ⟨w6.heap.size,0,none⟩,(s.extract pos (pos + wd)).size,grownCap w6 (s.extract pos (pos + wd)).size 0 5)) (run_bytes w6 (s.extract pos (pos + wd))) ?_
   have B := g5.bld.no hcs
   refine hex_loop base b (Lib.bytesWorld w6 5 (s.extract pos (pos + wd))) q3 m3 d3 _ B (Nat.le_trans hb5 hcs.size) s k w6.heap.size _ _ ((s.data.toList.drop pos).take wd) (by
    have hsl : s.data.toList.length = s.size := by simp
    rw [List.length_take,List.length_drop,hes,hsl]; omega) (fun j u hu => ?_) (by rw [Lib.bytesWorld_size]; omega) (fun e => by have := g5.bld.lt; omega) (fun hr => by have := (g5.bld.row.lt hr).2; omega) (by rw [hes]; omega) (fun w7 q7 m7 d7 g'' g7 => fin w7 q7 m7 d7 ?_)
   ·have hj : j < (s.extract pos (pos + wd)).size := by
     rw [hes]
     have := (List.getElem?_eq_some_iff.1 hu).1
     rw [List.length_take] at this
     omega
    rw [Lib.bytesWorld_cell w6 5 _ j hj,hel]
    simp [List.getD,hu]
   ·have hpc : pieceQ s pos cv wd = ((s.data.toList.drop pos).take wd).flatMap hexB := by unfold pieceQ; rw [if_neg e1,if_neg e2,if_neg e3,if_neg (by rw [e]; simp)]
    rw [hpc]
    exact GrewW.after hcs g7
 ·refine ⟨rfl,(),rfl,fun g' => ?_⟩
  have hf : quoteF s s.size pos = [] := by
   cases hz : s.size with
   | zero => rfl
   | succ j => rw [quoteF,if_neg hp]
  rw [hf,List.append_nil] at hs
  refine cl_i (writeByte_any base b w3 q3 m3 d3 _ 34 g3.bld (Nat.le_trans hw g3.ch.size) (by omega)) ?_
  rintro e w4 ⟨rfl,q4,m4,d4,g4⟩
  refine ⟨.nilIface,rfl,rfl,q4,m4,d4,?_⟩
  have := GrewW.trans h g3 g4
  rw [hs] at this
  simpa [quoteB] using this
end Go.Proofs.YtmdmomccibpjbaaGreatDoor
namespace Go.Proofs.YtmdmomccibpjbaaGreatDoor
open Go Tr
set_option maxRecDepth 100000
def Rng (i : Int) : Prop := -9223372036854775808 ≤ i ∧ i ≤ 9223372036854775807
mutual
def Fit : VT → Prop
 | .mk k i s l => Rng k ∧ Rng i ∧ s.size ≤ 9223372036854775807 ∧ FitL l
def FitL : List VT → Prop
 | [] => True
 | x :: r => Fit x ∧ FitL r
end
theorem Fit_def (x : VT) : Fit x = (Rng x.kind ∧ Rng x.int ∧ x.text.size ≤ 9223372036854775807 ∧ FitL x.items) := by cases x; simp only [Fit]; rfl
theorem FitL_get {l : List VT} {i : Nat} {x : VT} (h : FitL l) (hx : l[i]? = some x) : Fit x := by
 induction l generalizing i with
 | nil => simp at hx
 | cons y r ih =>
  simp only [FitL] at h
  cases i with
  | zero => simp at hx; subst hx; exact h.1
  | succ i => exact ih h.2 (by simpa using hx)
theorem valid_is {x : VT} {p : Option Addr} {m c : Nat} {w : World} (hx : IsV w x p m c) : ∃ px mx cx,(∀ w',Ch No w w' → IsV w' (validV x) px mx cx) ∧ (if checkV x = 0 then valV x p m c else valV noneV none 0 0) = valV (validV x) px mx cx := by
 unfold validV
 by_cases h : checkV x = 0
 ·rw [if_pos h,if_pos h]; exact ⟨p,m,c,fun w'' hw => hx.no hw,rfl⟩
 ·rw [if_neg h,if_neg h]; exact ⟨none,0,0,fun w'' hw => noneV_is _,rfl⟩
theorem noneV_fit : Fit noneV := by
 rw [Fit_def]
 exact ⟨by unfold Rng; decide,by unfold Rng; decide,by decide,trivial⟩
theorem validV_fit {x : VT} (h : Fit x) : Fit (validV x) := by
 unfold validV
 split
 ·exact h
 ·exact noneV_fit
end Go.Proofs.YtmdmomccibpjbaaGreatDoor
