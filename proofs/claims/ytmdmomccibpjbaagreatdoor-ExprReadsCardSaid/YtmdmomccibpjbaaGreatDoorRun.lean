/- Check tells a value's first fault; Compare tells one order: what they compute, in plain words. AppendRune, WriteRune: a rune's bytes. -/
import Derived.Test.YtmdmomccibpjbaaGreatDoorBld
import Derived.Lib.RuneBytes
namespace Go.Proofs.YtmdmomccibpjbaaGreatDoor
open Go Tr
set_option maxRecDepth 100000
/-! the tree of function 95 -/
abbrev fx95_4 (qa0 : Addr) (qx2 : Int) (n1 : Nat) : List (Tmp × Value) := [(0,.pointer (some qa0)),(2,.int .i64 qx2),(4,.pointer (some ⟨n1,0,none⟩))]
abbrev mx95_4 : List (Tmp × Comp) := [(23,.leaf .bool)]
def s95_4 : Script := .ld (.int .i64) (.sym (.lit (.lit (.lit .nil))) (.lit (.ld (.int .i64) (.lit (.lit .nil)))))
theorem t95_4 (qa0 : Addr) (qx2 : Int) (n1 : Nat) (gg4 : Nat → Value) : pieceT Tryz.prog (at_ Tryz.f95 [1,1,0,0,1,1,0]) 92 (fx95_4 qa0 qx2 n1) gg4 (mx95_4.map (·.1)) [] [] s95_4 = .load ⟨n1,0,none⟩ (.int .i64) (fun x5 => .br (Decidable.decide (x5 < 0)) (.fin .normal [(23,.bool true)]) (.load ⟨n1,0,none⟩ (.int .i64) (fun x6 => .fin .normal [(23,.bool (Decidable.decide (x6 > 3)))]))) := by kernel_rfl
abbrev fx95_8 (qa0 : Addr) (qx2 : Int) (n1 : Nat) : List (Tmp × Value) := [(0,.pointer (some qa0)),(2,.int .i64 qx2),(4,.pointer (some ⟨n1,0,none⟩))]
abbrev mx95_8 : List (Tmp × Comp) := [(32,.leaf .bool)]
abbrev fx95_9 (qa0 : Addr) (qx2 : Int) (n1 : Nat) : List (Tmp × Value) := [(0,.pointer (some qa0)),(2,.int .i64 qx2),(4,.pointer (some ⟨n1,0,none⟩))]
abbrev mx95_9 : List (Tmp × Comp) := [(32,.leaf .bool)]
def s95_9 : Script := .ld (.int .i64) (.sym (.lit (.ld (.int .i64) (.lit (.lit .nil)))) (.lit (.lit (.lit .nil))))
theorem t95_9 (qa0 : Addr) (qx2 : Int) (n1 : Nat) (gg9 : Nat → Value) : pieceT Tryz.prog (at_ Tryz.f95 [1,1,0,0,1,1,1,1,0,0]) 92 (fx95_9 qa0 qx2 n1) gg9 (mx95_9.map (·.1)) [] [] s95_9 = .load ⟨n1,1,none⟩ (.int .i64) (fun x10 => .br (x10 != 0) (.load ⟨n1,0,none⟩ (.int .i64) (fun x11 => .fin .normal [(32,.bool (x11 != 1))])) (.fin .normal [(32,.bool false)])) := by kernel_rfl
abbrev fx95_13 (qa0 : Addr) (qx2 : Int) (n1 : Nat) : List (Tmp × Value) := [(0,.pointer (some qa0)),(2,.int .i64 qx2),(4,.pointer (some ⟨n1,0,none⟩))]
abbrev mx95_13 : List (Tmp × Comp) := [(32,.leaf .bool)]
def s95_13 : Script := .ld .str (.sym (.lit (.ld (.int .i64) (.lit (.lit .nil)))) (.lit (.lit (.lit .nil))))
theorem t95_13 (qa0 : Addr) (qx2 : Int) (n1 : Nat) (gg13 : Nat → Value) : pieceT Tryz.prog (at_ Tryz.f95 [1,1,0,0,1,1,1,1,0,1,1,0]) 92 (fx95_13 qa0 qx2 n1) gg13 (mx95_13.map (·.1)) [] [] s95_13 = .load ⟨n1,2,none⟩ .str (fun s14 => .br (!s14.toList == (bytesL []).toList) (.load ⟨n1,0,none⟩ (.int .i64) (fun x15 => .fin .normal [(32,.bool (x15 != 2))])) (.fin .normal [(32,.bool false)])) := by kernel_rfl
def s95_8 : Script := .ct 0 [0,2,4] mx95_9 (.sym .nil (.ct 0 [0,2,4] mx95_13 (.sym .nil (.ld .sl (.sym (.lit (.ld (.int .i64) (.lit (.lit .nil)))) (.lit (.lit (.lit .nil))))))))
theorem t95_8 (qa0 : Addr) (qx2 : Int) (n1 : Nat) (gg8 : Nat → Value) : pieceT Tryz.prog (at_ Tryz.f95 [1,1,0,0,1,1,1,1,0]) 92 (fx95_8 qa0 qx2 n1) gg8 (mx95_8.map (·.1)) [] [] s95_8 = .cut (at_ Tryz.f95 [1,1,0,0,1,1,1,1,0,0]) 92 (fx95_9 qa0 qx2 n1) mx95_9 (fun u12 g12 => .br u12.1 (.fin .normal [(32,.bool true)]) (.cut (at_ Tryz.f95 [1,1,0,0,1,1,1,1,0,1,1,0]) 92 (fx95_13 qa0 qx2 n1) mx95_13 (fun u16 g16 => .br u16.1 (.fin .normal [(32,.bool true)]) (.load ⟨n1,3,none⟩ .sl (fun l17 => .br (Decidable.decide ((↑l17.snd.fst : Int) > 0)) (.load ⟨n1,0,none⟩ (.int .i64) (fun x18 => .fin .normal [(32,.bool (x18 != 3))])) (.fin .normal [(32,.bool false)])))))) := by kernel_rfl
abbrev fx95_20 (qa0 : Addr) (qx2 : Int) (n1 : Nat) : List (Tmp × Value) := [(0,.pointer (some qa0)),(2,.int .i64 qx2),(4,.pointer (some ⟨n1,0,none⟩))]
abbrev mx95_20 : List (Tmp × Comp) := [(58,.leaf .bool)]
def s95_20 : Script := .ld (.int .i64) (.sym (.lit (.lit .nil)) (.lit (.lit .nil)))
theorem t95_20 (qa0 : Addr) (qx2 : Int) (n1 : Nat) (gg20 : Nat → Value) : pieceT Tryz.prog (at_ Tryz.f95 [1,1,0,0,1,1,1,1,1,1,0]) 92 (fx95_20 qa0 qx2 n1) gg20 (mx95_20.map (·.1)) [] [] s95_20 = .load ⟨n1,0,none⟩ (.int .i64) (fun x21 => .br (x21 == 3) (.fin .normal [(58,.bool (Decidable.decide (qx2 ≥ 3)))]) (.fin .normal [(58,.bool false)])) := by kernel_rfl
abbrev fx95_26 (qa0 : Addr) (qx2 : Int) (l25 : Option Addr × Nat × Nat) : List (Tmp × Value) := [(0,.pointer (some qa0)),(2,.int .i64 qx2),(77,.slice l25.1 l25.2.1 l25.2.2),(78,.int .i64 (↑l25.snd.fst : Int))]
abbrev m95_26 : List (Tmp × Comp) := [(79,.leaf (.int .i64))]
abbrev mx95_26 : List (Tmp × Comp) := []
abbrev mr95_26 : List (Tmp × Comp) := [(6,.leaf (.int .i64))]
def s95_26 : Script := .sym (.ix (.ld (.int .i64) (.ld (.int .i64) (.ld .str (.ld .sl (.ld (.int .i64) (.ld (.int .i64) (.ld .str (.ld .sl (.cl (.one (.leaf (.int .i64))) (.sym .nil .nil))))))))))) .nil
theorem t95_26 (qa0 : Addr) (qx2 : Int) (l25 : Option Addr × Nat × Nat) (x_79 : Int) (gg26 : Nat → Value) : pieceT Tryz.prog (at_ Tryz.f95 [1,1,1,0,1,0,0]) 92 (fx95_26 qa0 qx2 l25 ++ mvals m95_26 (x_79,())) gg26 (m95_26.map (·.1)) (mx95_26.map (·.1)) (mr95_26.map (·.1)) s95_26 = .br (Decidable.decide (x_79 < (↑l25.snd.fst : Int))) (.idx l25.1 x_79 l25.2.1 4 (fun a27 => .load a27 (.int .i64) (fun x28 => .load (a27.add 1) (.int .i64) (fun x29 => .load (a27.add 2) .str (fun s30 => .load (a27.add 3) .sl (fun l31 => .new (.cells #[.int .i64 0,.int .i64 0,.string (bytesL []),.slice none 0 0] 94 (0,0)) (fun n32 => .store ⟨n32,0,none⟩ (.int .i64 x28) (.store ⟨n32,1,none⟩ (.int .i64 x29) (.store ⟨n32,2,none⟩ (.string s30) (.store ⟨n32,3,none⟩ (.slice l31.1 l31.2.1 l31.2.2) (.load ⟨n32,0,none⟩ (.int .i64) (fun x33 => .load ⟨n32,1,none⟩ (.int .i64) (fun x34 => .load ⟨n32,2,none⟩ .str (fun s35 => .load ⟨n32,3,none⟩ .sl (fun l36 => .call 95 #[.pointer (some qa0),.agg #[.int .i64 x33,.int .i64 x34,.string s35,.slice l36.1 l36.2.1 l36.2.2],.int .i64 (IntKind.i64.wrap (qx2 + 1))] (.one (.leaf (.int .i64))) (fun x37 => .br (x37 != 0) (.fin .ret [(6,.int .i64 x37)]) (.fin .normal [(79,.int .i64 (IntKind.i64.wrap (x_79 + 1)))]))))))))))))))))) (.fin (.exit 1) []) := by kernel_rfl
def s95 : Script := .ld (.int .i64) (.ld (.int .i64) (.sym .nil (.ct 0 [0,2,4] mx95_4 (.sym .nil (.ct 0 [0,2,4] mx95_8 (.sym .nil (.ct 0 [0,2,4] mx95_20 (.sym .nil (.ld .str (.sym .nil (.ld .sl (.sym .nil (.ld .sl (.lp 1 [0,2,77,78] [79] mx95_26 mr95_26 .nil .nil))))))))))))))
theorem t95 (qa0 : Addr) (qx1_0 : Int) (qx1_1 : Int) (qs1_2 : ByteArray) (qa1_3 : Option Addr) (qn1_3 : Nat) (qc1_3 : Nat) (qx2 : Int) : fnT Tryz.prog Tryz.f95 #[.pointer (some qa0),.agg #[.int .i64 qx1_0,.int .i64 qx1_1,.string qs1_2,.slice qa1_3 qn1_3 qc1_3],.int .i64 qx2] s95 = .new (.cells #[.int .i64 qx1_0,.int .i64 qx1_1,.string qs1_2,.slice qa1_3 qn1_3 qc1_3] 94 (0,0)) (fun n1 => .load qa0 (.int .i64) (fun x2 => .store qa0 (.int .i64 (IntKind.i64.wrap (x2 + 1))) (.load qa0 (.int .i64) (fun x3 => .br (Decidable.decide (x3 > 12)) (.done (.returned (.int .i64 22))) (.cut (at_ Tryz.f95 [1,1,0,0,1,1,0]) 92 (fx95_4 qa0 qx2 n1) mx95_4 (fun u7 g7 => .br u7.1 (.done (.returned (.int .i64 20))) (.cut (at_ Tryz.f95 [1,1,0,0,1,1,1,1,0]) 92 (fx95_8 qa0 qx2 n1) mx95_8 (fun u19 g19 => .br u19.1 (.done (.returned (.int .i64 20))) (.cut (at_ Tryz.f95 [1,1,0,0,1,1,1,1,1,1,0]) 92 (fx95_20 qa0 qx2 n1) mx95_20 (fun u22 g22 => .br u22.1 (.done (.returned (.int .i64 23))) (.load ⟨n1,2,none⟩ .str (fun s23 => .br (Decidable.decide ((↑s23.size : Int) > 24)) (.done (.returned (.int .i64 21))) (.load ⟨n1,3,none⟩ .sl (fun l24 => .br (Decidable.decide ((↑l24.snd.fst : Int) > 6)) (.done (.returned (.int .i64 22))) (.load ⟨n1,3,none⟩ .sl (fun l25 => .loop (at_ Tryz.f95 [1,1,1,0,1,0,0]) 92 (fx95_26 qa0 qx2 l25) [(79,.int .i64 0)] mx95_26 mr95_26 1 (fun u38 g38 => .done (.returned (.int .i64 0))) (fun u39 g39 => .done (.returned (.int .i64 u39.1))))))))))))))))))) := by kernel_rfl
/-! the tree of function 82 -/
def s82 : Script := .ld (.int .i64) (.ld (.int .i64) (.ld .str (.ld .sl (.cl (.one (.leaf (.int .i64))) .nil))))
theorem t82 (qx0_0 : Int) (qx0_1 : Int) (qs0_2 : ByteArray) (qa0_3 : Option Addr) (qn0_3 : Nat) (qc0_3 : Nat) : fnT Tryz.prog Tryz.f82 #[.agg #[.int .i64 qx0_0,.int .i64 qx0_1,.string qs0_2,.slice qa0_3 qn0_3 qc0_3]] s82 = .new (.cells #[.int .i64 qx0_0,.int .i64 qx0_1,.string qs0_2,.slice qa0_3 qn0_3 qc0_3] 94 (0,0)) (fun n1 => .new (.cells #[.int .i64 0] 180 (0,0)) (fun n2 => .store ⟨n2,0,none⟩ (.int .i64 0) (.load ⟨n1,0,none⟩ (.int .i64) (fun x3 => .load ⟨n1,1,none⟩ (.int .i64) (fun x4 => .load ⟨n1,2,none⟩ .str (fun s5 => .load ⟨n1,3,none⟩ .sl (fun l6 => .call 95 #[.pointer (some ⟨n2,0,none⟩),.agg #[.int .i64 x3,.int .i64 x4,.string s5,.slice l6.1 l6.2.1 l6.2.2],.int .i64 0] (.one (.leaf (.int .i64))) (fun x7 => .done (.returned (.int .i64 x7)))))))))) := by kernel_rfl
/-! the tree of function 63 -/
def s63 : Script := .ld (.int .i64) (.ld (.int .i64) (.ld .str (.ld .sl (.cl (.one (.leaf (.int .i64))) (.sym (.ld (.int .i64) (.ld (.int .i64) (.ld .str (.ld .sl .nil)))) (.ld (.int .i64) (.ld (.int .i64) (.ld .str (.ld .sl (.ld (.int .i64) (.ld (.int .i64) (.ld .str (.ld .sl .nil)))))))))))))
theorem t63 (qx0_0 : Int) (qx0_1 : Int) (qs0_2 : ByteArray) (qa0_3 : Option Addr) (qn0_3 : Nat) (qc0_3 : Nat) : fnT Tryz.prog Tryz.f63 #[.agg #[.int .i64 qx0_0,.int .i64 qx0_1,.string qs0_2,.slice qa0_3 qn0_3 qc0_3]] s63 = .new (.cells #[.int .i64 qx0_0,.int .i64 qx0_1,.string qs0_2,.slice qa0_3 qn0_3 qc0_3] 94 (0,0)) (fun n1 => .new (.cells #[.int .i64 0,.int .i64 0,.string (bytesL []),.slice none 0 0] 94 (0,0)) (fun n2 => .load ⟨n1,0,none⟩ (.int .i64) (fun x3 => .load ⟨n1,1,none⟩ (.int .i64) (fun x4 => .load ⟨n1,2,none⟩ .str (fun s5 => .load ⟨n1,3,none⟩ .sl (fun l6 => .call 82 #[.agg #[.int .i64 x3,.int .i64 x4,.string s5,.slice l6.1 l6.2.1 l6.2.2]] (.one (.leaf (.int .i64))) (fun x7 => .br (x7 != 0) (.store ⟨n2,0,none⟩ (.int .i64 0) (.store ⟨n2,1,none⟩ (.int .i64 0) (.store ⟨n2,2,none⟩ (.string (bytesL [])) (.store ⟨n2,3,none⟩ (.slice none 0 0) (.load ⟨n2,0,none⟩ (.int .i64) (fun x8 => .load ⟨n2,1,none⟩ (.int .i64) (fun x9 => .load ⟨n2,2,none⟩ .str (fun s10 => .load ⟨n2,3,none⟩ .sl (fun l11 => .done (.returned (.agg #[.int .i64 x8,.int .i64 x9,.string s10,.slice l11.1 l11.2.1 l11.2.2]))))))))))) (.load ⟨n1,0,none⟩ (.int .i64) (fun x12 => .load ⟨n1,1,none⟩ (.int .i64) (fun x13 => .load ⟨n1,2,none⟩ .str (fun s14 => .load ⟨n1,3,none⟩ .sl (fun l15 => .store ⟨n2,0,none⟩ (.int .i64 x12) (.store ⟨n2,1,none⟩ (.int .i64 x13) (.store ⟨n2,2,none⟩ (.string s14) (.store ⟨n2,3,none⟩ (.slice l15.1 l15.2.1 l15.2.2) (.load ⟨n2,0,none⟩ (.int .i64) (fun x16 => .load ⟨n2,1,none⟩ (.int .i64) (fun x17 => .load ⟨n2,2,none⟩ .str (fun s18 => .load ⟨n2,3,none⟩ .sl (fun l19 => .done (.returned (.agg #[.int .i64 x16,.int .i64 x17,.string s18,.slice l19.1 l19.2.1 l19.2.2])))))))))))))))))))))) := by kernel_rfl
/-! ### Check -/
mutual
/-- The error of a part and of those in it, and how many parts were counted till then. -/
def partV (n depth : Int) : VT → Int × Int
 | .mk k i s l =>
  if n + 1 > 12 then (22,n + 1)
  else if k < 0 ∨ k > 3 then (20,n + 1)
  else if (i ≠ 0 ∧ k ≠ 1) ∨ (s.toList ≠ [] ∧ k ≠ 2) ∨ (0 < l.length ∧ k ≠ 3) then (20,n + 1)
  else if k = 3 ∧ depth ≥ 3 then (23,n + 1)
  else if s.size > 24 then (21,n + 1)
  else if l.length > 6 then (22,n + 1)
  else partL (n + 1) depth l
def partL (n depth : Int) : List VT → Int × Int
 | [] => (0,n)
 | x :: r => if (partV n (depth + 1) x).1 ≠ 0 then partV n (depth + 1) x else partL (partV n (depth + 1) x).2 depth r
end
theorem partV_def (n depth : Int) (x : VT) : partV n depth x = (if n + 1 > 12 then (22,n + 1)
  else if x.kind < 0 ∨ x.kind > 3 then (20,n + 1)
  else if (x.int ≠ 0 ∧ x.kind ≠ 1) ∨ (x.text.toList ≠ [] ∧ x.kind ≠ 2) ∨ (0 < x.items.length ∧ x.kind ≠ 3) then (20,n + 1)
  else if x.kind = 3 ∧ depth ≥ 3 then (23,n + 1)
  else if x.text.size > 24 then (21,n + 1)
  else if x.items.length > 6 then (22,n + 1)
  else partL (n + 1) depth x.items) := by
 cases x; simp only [partV]; rfl
mutual
theorem partV_bound : ∀ (x : VT) (n depth : Int),0 ≤ n → n ≤ 12 → 0 ≤ (partV n depth x).2 ∧ (partV n depth x).2 ≤ 13 ∧ ((partV n depth x).1 = 0 → (partV n depth x).2 ≤ 12)
 | .mk k i s l,n,depth,h0,h1 => by
  simp only [partV]
  split
  ·exact ⟨by dsimp only; omega,by dsimp only; omega,fun h => by simp at h⟩
  split
  ·exact ⟨by dsimp only; omega,by dsimp only; omega,fun h => by simp at h⟩
  split
  ·exact ⟨by dsimp only; omega,by dsimp only; omega,fun h => by simp at h⟩
  split
  ·exact ⟨by dsimp only; omega,by dsimp only; omega,fun h => by simp at h⟩
  split
  ·exact ⟨by dsimp only; omega,by dsimp only; omega,fun h => by simp at h⟩
  split
  ·exact ⟨by dsimp only; omega,by dsimp only; omega,fun h => by simp at h⟩
  exact partL_bound l (n + 1) depth (by omega) (by omega)
theorem partL_bound : ∀ (l : List VT) (n depth : Int),0 ≤ n → n ≤ 12 → 0 ≤ (partL n depth l).2 ∧ (partL n depth l).2 ≤ 13 ∧ ((partL n depth l).1 = 0 → (partL n depth l).2 ≤ 12)
 | [],n,depth,h0,h1 => by simp only [partL]; exact ⟨h0,by omega,fun _ => h1⟩
 | x :: r,n,depth,h0,h1 => by
  simp only [partL]
  have h := partV_bound x n (depth + 1) h0 h1
  split
  ·exact h
  ·rename_i he
   exact partL_bound r _ depth h.1 (h.2.2 (by simpa using he))
end
theorem partL_drop {l : List VT} {i : Nat} {x : VT} (n depth : Int) (hx : l[i]? = some x) : partL n depth (l.drop i) = (if (partV n (depth + 1) x).1 ≠ 0 then partV n (depth + 1) x else partL (partV n (depth + 1) x).2 depth (l.drop (i + 1))) := by
 rw [List.drop_eq_getElem?_toList_append,hx]
 simp [partL]
theorem bytesL_nil : (bytesL []).toList = [] := by rw [ByteArray.toList_eq]
theorem part_any (k : Nat) : ∀ (x : VT) (p : Option Addr) (m c : Nat) (w0 w : World) (b : Nat) (n depth : Int),SizeOf.sizeOf x < k → IsV w0 x p m c → Ch No w0 w → w0.heap.size ≤ b → Blk w b [.int .i64 n] 180 → 0 ≤ n → n ≤ 12 → 0 ≤ depth → depth ≤ 3 →
  Calls Tryz.prog 95 #[.pointer (some ⟨b,0,none⟩),valV x p m c,.int .i64 depth] w fun e w' => e = .returned (.int .i64 (partV n depth x).1) ∧ Ch (· = b) w w' ∧ Blk w' b [.int .i64 (partV n depth x).2] 180 := by
 induction k with
 | zero => intro x p m c w0 w b n depth h; omega
 | succ k ih =>
  intro x p m c w0 w b n depth hk hx h0w hb0 hb n0 n1 d0 d1
  refine calls_of_fnT mixed Tryz.func95 (s := s95) ?_
  unfold valV
  rw [t95,partV_def]
  refine nw fun w1 h1 z1 b1 => ?_
  have hbn : w.heap.size ≠ b := by have := hb.lt; omega
  refine ld_int ((hb.ch h1 (fun h => h)).cell 0) (st_blk (hb.ch h1 (fun h => h)) (by simp) rfl fun w2 h2 z2 b2 => ?_)
  rw [wrap_succ n0 (by omega)] at b2
  have B := b1.ch h2 (fun e => hbn e)
  have H : Ch (· = b) w w2 := h1.no.trans h2
  refine ld_int (b2.cell 0) (br_both (fun e => ?_) fun e => ?_)
  ·have : n + 1 > 12 := by simpa using e
   rw [if_pos this]
   exact ⟨rfl,H,b2⟩
  have g1 : ¬ n + 1 > 12 := by simpa using e
  rw [if_neg g1]
  clear e
  refine cut_i mixed s95_4 (fun (v : Bool × Unit) w' => w' = w2 ∧ v.1 = decide (x.kind < 0 ∨ x.kind > 3)) (by kernel_rfl) (fun g => ?_) ?_
  ·rw [t95_4]
   refine ld_int (B.cell 0) (br_both (fun e => ⟨rfl,(true,()),rfl,rfl,?_⟩) fun e => ld_int (B.cell 0) ⟨rfl,(decide (x.kind > 3),()),rfl,rfl,?_⟩)
   ·have e := of_decide_eq_true e
    exact (decide_eq_true (Or.inl e)).symm
   ·have e := of_decide_eq_false e
    exact decide_eq_decide.2 ⟨fun h => .inr h,fun h => h.resolve_left e⟩
  rintro ⟨u,⟨⟩⟩ g w' ⟨rfl,hu⟩
  dsimp only at hu
  subst hu
  refine br_both (fun e => ?_) fun e => ?_
  ·simp only [decide_eq_true_eq] at e
   rw [if_pos e]
   exact ⟨rfl,H,b2⟩
  simp only [decide_eq_false_iff_not] at e
  rw [if_neg e]
  clear e
  refine cut_i mixed s95_8 (fun (v : Bool × Unit) w'' => w'' = w' ∧ v.1 = decide ((x.int ≠ 0 ∧ x.kind ≠ 1) ∨ (x.text.toList ≠ [] ∧ x.kind ≠ 2) ∨ (0 < x.items.length ∧ x.kind ≠ 3))) (by kernel_rfl) (fun g => ?_) ?_
  ·rw [t95_8]
   refine cut_i mixed s95_9 (fun (v : Bool × Unit) w'' => w'' = w' ∧ v.1 = decide (x.int ≠ 0 ∧ x.kind ≠ 1)) (by kernel_rfl) (fun g => ?_) ?_
   ·rw [t95_9]
    refine ld_int (B.cell 1) (br_both (fun e => ld_int (B.cell 0) ⟨rfl,(x.kind != 1,()),rfl,rfl,?_⟩) fun e => ⟨rfl,(false,()),rfl,rfl,?_⟩)
    ·rw [bne_iff_ne] at e
     rw [Bool.eq_iff_iff,bne_iff_ne,decide_eq_true_eq]
     exact ⟨fun h => ⟨e,h⟩,fun h => h.2⟩
    ·have e : x.int = 0 := by simpa using e
     simp [e]
   rintro ⟨u,⟨⟩⟩ g w2' ⟨rfl,hu⟩
   dsimp only at hu
   subst hu
   refine br_both (fun e => ⟨rfl,(true,()),rfl,rfl,?_⟩) fun e => ?_
   ·have e := of_decide_eq_true e
    simp [e]
   have e1 := of_decide_eq_false e
   refine cut_i mixed s95_13 (fun (v : Bool × Unit) w'' => w'' = w2' ∧ v.1 = decide (x.text.toList ≠ [] ∧ x.kind ≠ 2)) (by kernel_rfl) (fun g => ?_) ?_
   ·rw [t95_13]
    refine ld_str (B.cell 2) (br_both (fun e => ld_int (B.cell 0) ⟨rfl,(x.kind != 2,()),rfl,rfl,?_⟩) fun e => ⟨rfl,(false,()),rfl,rfl,?_⟩)
    ·have e : ¬ x.text.toList = [] := fun h => by
      rw [h,bytesL_nil] at e
      simp at e
     rw [Bool.eq_iff_iff,bne_iff_ne,decide_eq_true_eq]
     exact ⟨fun h => ⟨e,h⟩,fun h => h.2⟩
    ·have e : x.text.toList = [] := by
      have e' : (x.text.toList == (bytesL []).toList) = true := by simpa using e
      rw [bytesL_nil] at e'
      simpa using e'
     exact (decide_eq_false (fun h => h.1 e)).symm
   rintro ⟨u,⟨⟩⟩ g w3' ⟨rfl,hu⟩
   dsimp only at hu
   subst hu
   refine br_both (fun e => ⟨rfl,(true,()),rfl,rfl,?_⟩) fun e => ?_
   ·have e := of_decide_eq_true e
    simp [e]
   have e2 := of_decide_eq_false e
   have hl := RIt_len hx.its
   refine ld_sl (B.cell 3) (br_both (fun e => ld_int (B.cell 0) ⟨rfl,(x.kind != 3,()),rfl,rfl,?_⟩) fun e => ⟨rfl,(false,()),rfl,rfl,?_⟩)
   ·have e : 0 < m := by simpa using e
    rw [Bool.eq_iff_iff,bne_iff_ne,decide_eq_true_eq,hl]
    exact ⟨fun h => .inr (.inr ⟨e,h⟩),fun h => (h.resolve_left e1).resolve_left e2 |>.2⟩
   ·have e : ¬ 0 < m := by simpa using e
    refine (decide_eq_false fun h => ?_).symm
    rw [hl] at h
    exact e ((h.resolve_left e1).resolve_left e2).1
  rintro ⟨u,⟨⟩⟩ g w' ⟨rfl,hu⟩
  dsimp only at hu
  subst hu
  refine br_both (fun e => ?_) fun e => ?_
  ·rw [if_pos (of_decide_eq_true e)]
   exact ⟨rfl,H,b2⟩
  have g3 := of_decide_eq_false e
  rw [if_neg g3]
  clear e
  refine cut_i mixed s95_20 (fun (v : Bool × Unit) w'' => w'' = w' ∧ v.1 = decide (x.kind = 3 ∧ depth ≥ 3)) (by kernel_rfl) (fun g => ?_) ?_
  ·rw [t95_20]
   refine ld_int (B.cell 0) (br_both (fun e => ⟨rfl,(decide (depth ≥ 3),()),rfl,rfl,?_⟩) fun e => ⟨rfl,(false,()),rfl,rfl,?_⟩)
   ·have e : x.kind = 3 := by simpa using e
    simp [e]
   ·have e : ¬ x.kind = 3 := by simpa using e
    simp [e]
  rintro ⟨u,⟨⟩⟩ g w' ⟨rfl,hu⟩
  dsimp only at hu
  subst hu
  refine br_both (fun e => ?_) fun e => ?_
  ·rw [if_pos (of_decide_eq_true e)]
   exact ⟨rfl,H,b2⟩
  have hd := of_decide_eq_false e
  rw [if_neg hd]
  clear e
  refine ld_str (B.cell 2) (br_both (fun e => ?_) fun e => ?_)
  ·have e : x.text.size > 24 := by have := of_decide_eq_true e; omega
   rw [if_pos e]
   exact ⟨rfl,H,b2⟩
  rw [if_neg (by have := of_decide_eq_false e; omega)]
  have hl := RIt_len hx.its
  refine ld_sl (B.cell 3) (br_both (fun e => ?_) fun e => ?_)
  ·have e : m > 6 := by have := of_decide_eq_true e; dsimp only at this; omega
   rw [if_pos (by rw [hl]; exact e)]
   exact ⟨rfl,H,b2⟩
  have hm6 : ¬ m > 6 := by have := of_decide_eq_false e; dsimp only at this; omega
  rw [if_neg (by rw [hl]; exact hm6)]
  refine ld_sl (B.cell 3) ?_
  have hbd := partL_bound x.items (n + 1) depth (by omega) (by omega)
  -- the items
  refine loop_i mixed m95_26 s95_26 (by kernel_rfl) (by kernel_rfl)
   (fun (v : Int × Unit) w'' => 0 ≤ v.1 ∧ v.1 ≤ m ∧ ∃ n' : Int,0 ≤ n' ∧ n' ≤ 12 ∧ Ch (· = b) w' w'' ∧ Blk w'' b [.int .i64 n'] 180 ∧ partL n' depth (x.items.drop v.1.toNat) = partL (n + 1) depth x.items) (fun (v : Int × Unit) _ => m - v.1.toNat) (0,()) rfl ⟨by simp,by simp,n + 1,by omega,by omega,Ch.refl _ _,b2,by simp⟩ ?_
  rintro ⟨(i : Int),⟨⟩⟩ g w'' ⟨(i0 : 0 ≤ i),(i1 : i ≤ m),n',hn0,hn1,hw,bn,hs⟩
  rw [t95_26]
  dsimp only at hs
  have H' : Ch (· = b) w w'' := H.trans hw
  refine br_both (fun e => ?_) fun e => ?_
  ·have hi : i < m := by simpa using e
   have hcap := hx.cap
   have hbig := hx.big
   obtain ⟨y,hy⟩ : ∃ u,x.items[i.toNat]? = some u := ⟨_,List.getElem?_eq_getElem (by omega)⟩
   obtain ⟨ad,q,my,cy,rfl,cv,vy⟩ := hx.get hy
   have h0'' : Ch No w0 w'' := h0w.then_ H' (fun i hi (e : i = b) => by omega)
   have C := cv.ch (w' := w'') (fun a v ha => h0''.cellv ha (fun h => h))
   refine ix_i i0 (by simpa using hi) (ld_int C.c0 (ld_int C.c1 (ld_str C.c2 (ld_sl C.c3 ?_))))
   refine nw fun w3 h3 z3 b3 => ?_
   refine st_blk b3 (by simp) rfl fun w4 h4 z4 b4 => st_blk b4 (by simp) rfl fun w5 h5 z5 b5 => st_blk b5 (by simp) rfl fun w6 h6 z6 b6 => st_blk b6 (by simp) rfl fun w7 h7 z7 b7 => ?_
   refine ld_int (b7.cell 0) (ld_int (b7.cell 1) (ld_str (b7.cell 2) (ld_sl (b7.cell 3) ?_)))
   have hne : b ≠ w''.heap.size := by have := bn.lt; omega
   have hS : Ch (· = w''.heap.size) w3 w7 := h4.trans (h5.trans (h6.trans h7))
   have h37 : Ch No w'' w7 := h3.then_ hS (fun i hi (e : i = _) => by omega)
   have hdp : x.kind = 3 → depth ≤ 2 := fun e => by
    have : ¬ depth ≥ 3 := fun h => hd ⟨e,h⟩
    omega
   have hkd : x.kind = 3 := Decidable.byContradiction fun h => g3 (.inr (.inr ⟨by omega,h⟩))
   rw [show IntKind.i64.wrap (depth + 1) = depth + 1 from wrap_succ d0 (by omega)]
   have hsz := VT.size_lt hy
   refine cl_i (ih y q my cy w0 w7 b n' (depth + 1) (by omega) vy (h0''.trans h37) hb0 (bn.ch h37 (fun h => h)) hn0 hn1 (by omega) (by have := hdp hkd; omega)) ?_
   rintro e w8 ⟨rfl,h8,b8⟩
   have hbd' := partV_bound y n' (depth + 1) hn0 hn1
   have hdr := partL_drop n' depth hy
   refine ⟨_,rfl,br_both (fun e => ?_) fun e => ?_⟩
   ·rw [bne_iff_ne] at e
    rw [if_pos e] at hdr
    refine ⟨(_,()),rfl,fun g => ?_⟩
    rw [← hs,hdr]
    exact ⟨rfl,H'.trans (h37.no.trans h8),b8⟩
   ·have e : (partV n' (depth + 1) y).1 = 0 := by simpa using e
    rw [if_neg (fun h => h e)] at hdr
    refine ⟨(i + 1,()),?_,⟨by dsimp only; omega,by dsimp only; omega,_,hbd'.1,hbd'.2.2 e,hw.trans (h37.no.trans h8),b8,?_⟩,by dsimp only; omega⟩
    ·rw [wrap_succ i0 (by omega)]; rfl
    ·dsimp only
     rw [show (i + 1).toNat = i.toNat + 1 by omega,← hs,hdr]
  ·have hi : ¬ i < m := by simpa using e
   refine ⟨rfl,(),rfl,fun g => ?_⟩
   rw [List.drop_of_length_le (by omega)] at hs
   simp only [partL] at hs
   rw [← hs]
   exact ⟨rfl,H',bn⟩
/-- Check's answer. -/
def checkV (x : VT) : Int := (partV 0 0 x).1
theorem check_any (x : VT) (p : Option Addr) (m c : Nat) (w : World) (hx : IsV w x p m c) :
  Calls Tryz.prog 82 #[valV x p m c] w fun e w' => e = .returned (.int .i64 (checkV x)) ∧ Ch No w w' := by
 refine calls_of_fnT mixed Tryz.func82 (s := s82) ?_
 unfold valV
 rw [t82]
 refine nw fun w1 h1 z1 b1 => nw fun w2 h2 z2 b2 => st_blk b2 (by simp) rfl fun w3 h3 z3 b3 => ?_
 have B := (b1.ch h2 (fun h => h)).ch h3 (fun e => by omega)
 have H : Ch No w w3 := h1.trans (h2.then_ h3 (fun i hi (e : i = _) => by omega))
 refine ld_int (B.cell 0) (ld_int (B.cell 1) (ld_str (B.cell 2) (ld_sl (B.cell 3) ?_)))
 refine cl_i (part_any _ x p m c w w3 w1.heap.size 0 0 (Nat.lt_succ_self _) hx H (by omega) b3 (by omega) (by omega) (by omega) (by omega)) ?_
 rintro e w4 ⟨rfl,h4,b4⟩
 exact ⟨_,rfl,rfl,H.then_ h4 (fun i hi (e : i = _) => by omega)⟩
/-- The value, or none, if it isn't valid. -/
def noneV : VT := .mk 0 0 (bytesL []) []
def validV (x : VT) : VT := if checkV x = 0 then x else noneV
theorem noneV_is (w : World) : IsV w noneV none 0 0 := ⟨Nat.le_refl _,by omega,by simp [RIt,noneV]⟩
theorem valid_any (x : VT) (p : Option Addr) (m c : Nat) (w : World) (hx : IsV w x p m c) :
  Calls Tryz.prog 63 #[valV x p m c] w fun e w' => e = .returned (if checkV x = 0 then valV x p m c else valV noneV none 0 0) ∧ Ch No w w' := by
 refine calls_of_fnT mixed Tryz.func63 (s := s63) ?_
 unfold valV
 rw [t63]
 refine nw fun w1 h1 z1 b1 => nw fun w2 h2 z2 b2 => ?_
 have B := b1.ch h2 (fun h => h)
 have H : Ch No w w2 := h1.trans h2
 refine ld_int (B.cell 0) (ld_int (B.cell 1) (ld_str (B.cell 2) (ld_sl (B.cell 3) ?_)))
 refine cl_i (check_any x p m c w2 (hx.no H)) ?_
 rintro e w3 ⟨rfl,h3⟩
 refine ⟨_,rfl,br_both (fun e => ?_) fun e => ?_⟩
 ·rw [bne_iff_ne] at e
  rw [if_neg e]
  refine st_blk (b2.ch h3 (fun h => h)) (by simp) rfl fun w4 h4 z4 b4 => st_blk b4 (by simp) rfl fun w5 h5 z5 b5 => st_blk b5 (by simp) rfl fun w6 h6 z6 b6 => st_blk b6 (by simp) rfl fun w7 h7 z7 b7 => ?_
  refine ld_int (b7.cell 0) (ld_int (b7.cell 1) (ld_str (b7.cell 2) (ld_sl (b7.cell 3) ?_)))
  exact ⟨rfl,(H.trans h3).then_ (h4.trans (h5.trans (h6.trans h7))) (fun i hi (e : i = _) => by omega)⟩
 ·have e : checkV x = 0 := by simpa using e
  rw [if_pos e]
  have B3 := B.ch h3 (fun h => h)
  refine ld_int (B3.cell 0) (ld_int (B3.cell 1) (ld_str (B3.cell 2) (ld_sl (B3.cell 3) ?_)))
  refine st_blk (b2.ch h3 (fun h => h)) (by simp) rfl fun w4 h4 z4 b4 => st_blk b4 (by simp) rfl fun w5 h5 z5 b5 => st_blk b5 (by simp) rfl fun w6 h6 z6 b6 => st_blk b6 (by simp) rfl fun w7 h7 z7 b7 => ?_
  refine ld_int (b7.cell 0) (ld_int (b7.cell 1) (ld_str (b7.cell 2) (ld_sl (b7.cell 3) ?_)))
  exact ⟨rfl,(H.trans h3).then_ (h4.trans (h5.trans (h6.trans h7))) (fun i hi (e : i = _) => by omega)⟩
/-! ### eddysize: are there few parts? -/
end Go.Proofs.YtmdmomccibpjbaaGreatDoor
namespace Go.Proofs.YtmdmomccibpjbaaGreatDoor
open Go Tr
open Go.Lib (byteCells strCells)
set_option maxRecDepth 100000
theorem or192 {x : Int} (h0 : 0 ≤ x) (h1 : x < 32) : IntKind.u8.wrap (((BitVec.ofInt IntKind.u8.bits 192 ||| BitVec.ofInt IntKind.u8.bits (IntKind.u8.wrap x)).toNat : Nat) : Int) = 192 + x := by
 have key : ∀ n : Fin 32,(BitVec.ofInt 8 192 ||| BitVec.ofInt 8 (n.val : Int)).toNat = 192 + n.val := by decide
 have h := key ⟨x.toNat,by omega⟩
 have e : ((x.toNat : Nat) : Int) = x := by omega
 simp only [e] at h
 rw [IntKind.wrap_u8',IntKind.wrap_u8',show x % 256 = x by omega]
 show (((BitVec.ofInt 8 192 ||| BitVec.ofInt 8 x).toNat : Nat) : Int) % 256 = _
 rw [h]; omega
theorem or224 {x : Int} (h0 : 0 ≤ x) (h1 : x < 16) : IntKind.u8.wrap (((BitVec.ofInt IntKind.u8.bits 224 ||| BitVec.ofInt IntKind.u8.bits (IntKind.u8.wrap x)).toNat : Nat) : Int) = 224 + x := by
 have key : ∀ n : Fin 16,(BitVec.ofInt 8 224 ||| BitVec.ofInt 8 (n.val : Int)).toNat = 224 + n.val := by decide
 have h := key ⟨x.toNat,by omega⟩
 have e : ((x.toNat : Nat) : Int) = x := by omega
 simp only [e] at h
 rw [IntKind.wrap_u8',IntKind.wrap_u8',show x % 256 = x by omega]
 show (((BitVec.ofInt 8 224 ||| BitVec.ofInt 8 x).toNat : Nat) : Int) % 256 = _
 rw [h]; omega
theorem or240 {x : Int} (h0 : 0 ≤ x) (h1 : x < 8) : IntKind.u8.wrap (((BitVec.ofInt IntKind.u8.bits 240 ||| BitVec.ofInt IntKind.u8.bits (IntKind.u8.wrap x)).toNat : Nat) : Int) = 240 + x := by
 have key : ∀ n : Fin 8,(BitVec.ofInt 8 240 ||| BitVec.ofInt 8 (n.val : Int)).toNat = 240 + n.val := by decide
 have h := key ⟨x.toNat,by omega⟩
 have e : ((x.toNat : Nat) : Int) = x := by omega
 simp only [e] at h
 rw [IntKind.wrap_u8',IntKind.wrap_u8',show x % 256 = x by omega]
 show (((BitVec.ofInt 8 240 ||| BitVec.ofInt 8 x).toNat : Nat) : Int) % 256 = _
 rw [h]; omega
theorem low63 (x : Int) : IntKind.u8.wrap (((BitVec.ofInt IntKind.u8.bits 128 ||| BitVec.ofInt IntKind.u8.bits (IntKind.u8.wrap (((BitVec.ofInt IntKind.u8.bits (IntKind.u8.wrap x) &&& BitVec.ofInt IntKind.u8.bits 63).toNat : Nat) : Int))).toNat : Nat) : Int) = 128 + x % 64 := by
 have key : ∀ n : Fin 256,(BitVec.ofInt 8 128 ||| BitVec.ofInt 8 (((BitVec.ofInt 8 (n.val : Int) &&& BitVec.ofInt 8 63).toNat : Nat) % 256 : Int)).toNat = 128 + n.val % 64 := by decide
 have h := key ⟨(x % 256).toNat,by omega⟩
 have e : (((x % 256).toNat : Nat) : Int) = x % 256 := by omega
 simp only [e] at h
 rw [IntKind.wrap_u8',IntKind.wrap_u8',IntKind.wrap_u8']
 show (((BitVec.ofInt 8 128 ||| BitVec.ofInt 8 ((((BitVec.ofInt 8 (x % 256) &&& BitVec.ofInt 8 63).toNat : Nat) : Int) % 256)).toNat : Nat) : Int) % 256 = _
 rw [h]; omega
theorem sh6 (x : Int) : x.fdiv (2 ^ Min.min (Int.toNat 6) IntKind.i32.bits) = x / 64 := by
 rw [show (2 : Int) ^ Min.min (Int.toNat 6) IntKind.i32.bits = 64 by decide,Int.fdiv_eq_ediv_of_nonneg _ (by decide)]
theorem sh12 (x : Int) : x.fdiv (2 ^ Min.min (Int.toNat 12) IntKind.i32.bits) = x / 4096 := by
 rw [show (2 : Int) ^ Min.min (Int.toNat 12) IntKind.i32.bits = 4096 by decide,Int.fdiv_eq_ediv_of_nonneg _ (by decide)]
theorem sh18 (x : Int) : x.fdiv (2 ^ Min.min (Int.toNat 18) IntKind.i32.bits) = x / 262144 := by
 rw [show (2 : Int) ^ Min.min (Int.toNat 18) IntKind.i32.bits = 262144 by decide,Int.fdiv_eq_ediv_of_nonneg _ (by decide)]
theorem wrap32 (r : Int) : IntKind.u32.wrap r = r % 4294967296 := IntKind.wrap_u32' r
section
variable {R : Ending → World → Prop} {Q : Exit → List (Tmp × Value) → World → Prop} {w : World}
/-- append of bytes told as numbers. -/
theorem ap_z {k : Option Addr × Nat × Nat → T} {cs : Array Bool} {base : Nat} {q : Option Addr} {n c : Nat} {bs : List UInt8} (hown : RowB w base q n c bs) (hb : base ≤ w.heap.size) {m c' : Nat} {b : Nat} {vs : List Value} {u : TypeId} (hblk : Blk w b vs u) (r : Int) (hv : vs = Lib.runeCells r) (hm : vs.length = m) (hsz : n + m ≤ 140737488355328)
  (h : ∀ q' c' w',GrewB base w q n c w' q' (n + m) c' (bs ++ Lib.encodeRune r) → wpT Tryz.prog R Q (k (q',n + m,c')) .pl w') :
  wpT Tryz.prog R Q (.run (builtin .append #[76,76] 76 cs #[.slice q n c,.slice (some ⟨b,0,none⟩) m c']) (.one (.leaf .sl)) k) .pl w :=
 ap_b hown hb hblk (Lib.encodeRune r) (by rw [hv,Lib.byteCells_encodeRune]) (by
  have := congrArg List.length (Lib.byteCells_encodeRune r)
  rw [Lib.byteCells_length] at this
  rw [this,← hv,hm]) hsz h
end
/-! the tree of function 27 -/
def s27 : Script := .cl (.tup []) (.ld .sl (.nop (.nop (.rn (.one (.leaf .sl)) .nil))))
theorem t27 (qa0 : Addr) (qx1 : Int) : fnT Tryz.prog Tryz.f27 #[.pointer (some qa0),.int .u8 qx1] s27 = .call 60 #[.pointer (some qa0)] (.tup []) (fun r1 => .load (qa0.add 1) .sl (fun l2 => .new (.cells #[.int .u8 qx1] 5 (0,0)) (fun n3 => .run (builtin .append #[76,76] 76 #[false,false] #[.slice l2.1 l2.2.1 l2.2.2,.slice (some ⟨n3,0,none⟩) 1 1]) (.one (.leaf .sl)) (fun l4 => .store (qa0.add 1) (.slice l4.1 l4.2.1 l4.2.2) (.done (.returned .nilIface)))))) := by kernel_rfl
/-! the tree of function 127 -/
abbrev fx127_3 (qa0 : Option Addr) (qn0 : Nat) (qc0 : Nat) (qx1 : Int) : List (Tmp × Value) := [(0,.slice qa0 qn0 qc0),(1,.int .i32 qx1),(5,.int .u32 (IntKind.u32.wrap qx1))]
abbrev mx127_3 : List (Tmp × Comp) := [(25,.leaf .bool)]
def s127_3 : Script := .sym .nil (.sym (.lit (.lit .nil)) (.lit (.lit .nil)))
theorem t127_3 (qa0 : Option Addr) (qn0 : Nat) (qc0 : Nat) (qx1 : Int) (gg3 : Nat → Value) : pieceT Tryz.prog (at_ Tryz.f127 [1,1,0,1,1,0]) 78 (fx127_3 qa0 qn0 qc0 qx1) gg3 (mx127_3.map (·.1)) [] [] s127_3 = .br (Decidable.decide (IntKind.u32.wrap qx1 < 55296)) (.fin .normal [(25,.bool true)]) (.br (Decidable.decide (57343 < IntKind.u32.wrap qx1)) (.fin .normal [(25,.bool (Decidable.decide (IntKind.u32.wrap qx1 ≤ 65535)))]) (.fin .normal [(25,.bool false)])) := by kernel_rfl
abbrev fx127_7 (qa0 : Option Addr) (qn0 : Nat) (qc0 : Nat) (qx1 : Int) : List (Tmp × Value) := [(0,.slice qa0 qn0 qc0),(1,.int .i32 qx1),(5,.int .u32 (IntKind.u32.wrap qx1))]
abbrev mx127_7 : List (Tmp × Comp) := [(50,.leaf .bool)]
def s127_7 : Script := .sym (.lit (.lit .nil)) (.lit (.lit .nil))
theorem t127_7 (qa0 : Option Addr) (qn0 : Nat) (qc0 : Nat) (qx1 : Int) (gg7 : Nat → Value) : pieceT Tryz.prog (at_ Tryz.f127 [1,1,0,1,1,1,1,0]) 78 (fx127_7 qa0 qn0 qc0 qx1) gg7 (mx127_7.map (·.1)) [] [] s127_7 = .br (Decidable.decide (IntKind.u32.wrap qx1 > 65535)) (.fin .normal [(50,.bool (Decidable.decide (IntKind.u32.wrap qx1 ≤ 1114111)))]) (.fin .normal [(50,.bool false)]) := by kernel_rfl
def s127 : Script := .sym (.nop (.nop (.nop (.nop (.nop (.nop (.nop (.nop (.nop (.nop (.rn (.one (.leaf .sl)) .nil))))))))))) (.ct 0 [0,1,5] mx127_3 (.sym (.nop (.nop (.nop (.nop (.nop (.nop (.nop (.nop (.nop (.nop (.nop (.nop (.nop (.nop (.nop (.rn (.one (.leaf .sl)) .nil)))))))))))))))) (.ct 0 [0,1,5] mx127_7 (.sym (.nop (.nop (.nop (.nop (.nop (.nop (.nop (.nop (.nop (.nop (.nop (.nop (.nop (.nop (.nop (.nop (.nop (.nop (.nop (.nop (.rn (.one (.leaf .sl)) .nil))))))))))))))))))))) (.nop (.nop (.rn (.one (.leaf .sl)) .nil)))))))
theorem t127 (qa0 : Option Addr) (qn0 : Nat) (qc0 : Nat) (qx1 : Int) : fnT Tryz.prog Tryz.f127 #[.slice qa0 qn0 qc0,.int .i32 qx1] s127 = .br (Decidable.decide (IntKind.u32.wrap qx1 ≤ 2047)) (.new (.cells #[.int .u8 (IntKind.u8.wrap (↑(BitVec.ofInt IntKind.u8.bits 192 ||| BitVec.ofInt IntKind.u8.bits (IntKind.u8.wrap (qx1.fdiv (2 ^ Min.min (Int.toNat 6) IntKind.i32.bits)))).toNat : Int)),.int .u8 (IntKind.u8.wrap (↑(BitVec.ofInt IntKind.u8.bits 128 ||| BitVec.ofInt IntKind.u8.bits (IntKind.u8.wrap (↑(BitVec.ofInt IntKind.u8.bits (IntKind.u8.wrap qx1) &&& BitVec.ofInt IntKind.u8.bits 63).toNat : Int))).toNat : Int))] 5 (0,0)) (fun n1 => .run (builtin .append #[76,76] 76 #[false,false] #[.slice qa0 qn0 qc0,.slice (some ⟨n1,0,none⟩) 2 2]) (.one (.leaf .sl)) (fun l2 => .done (.returned (.slice l2.1 l2.2.1 l2.2.2))))) (.cut (at_ Tryz.f127 [1,1,0,1,1,0]) 78 (fx127_3 qa0 qn0 qc0 qx1) mx127_3 (fun u4 g4 => .br u4.1 (.new (.cells #[.int .u8 (IntKind.u8.wrap (↑(BitVec.ofInt IntKind.u8.bits 224 ||| BitVec.ofInt IntKind.u8.bits (IntKind.u8.wrap (qx1.fdiv (2 ^ Min.min (Int.toNat 12) IntKind.i32.bits)))).toNat : Int)),.int .u8 (IntKind.u8.wrap (↑(BitVec.ofInt IntKind.u8.bits 128 ||| BitVec.ofInt IntKind.u8.bits (IntKind.u8.wrap (↑(BitVec.ofInt IntKind.u8.bits (IntKind.u8.wrap (qx1.fdiv (2 ^ Min.min (Int.toNat 6) IntKind.i32.bits))) &&& BitVec.ofInt IntKind.u8.bits 63).toNat : Int))).toNat : Int)),.int .u8 (IntKind.u8.wrap (↑(BitVec.ofInt IntKind.u8.bits 128 ||| BitVec.ofInt IntKind.u8.bits (IntKind.u8.wrap (↑(BitVec.ofInt IntKind.u8.bits (IntKind.u8.wrap qx1) &&& BitVec.ofInt IntKind.u8.bits 63).toNat : Int))).toNat : Int))] 5 (0,0)) (fun n5 => .run (builtin .append #[76,76] 76 #[false,false] #[.slice qa0 qn0 qc0,.slice (some ⟨n5,0,none⟩) 3 3]) (.one (.leaf .sl)) (fun l6 => .done (.returned (.slice l6.1 l6.2.1 l6.2.2))))) (.cut (at_ Tryz.f127 [1,1,0,1,1,1,1,0]) 78 (fx127_7 qa0 qn0 qc0 qx1) mx127_7 (fun u8 g8 => .br u8.1 (.new (.cells #[.int .u8 (IntKind.u8.wrap (↑(BitVec.ofInt IntKind.u8.bits 240 ||| BitVec.ofInt IntKind.u8.bits (IntKind.u8.wrap (qx1.fdiv (2 ^ Min.min (Int.toNat 18) IntKind.i32.bits)))).toNat : Int)),.int .u8 (IntKind.u8.wrap (↑(BitVec.ofInt IntKind.u8.bits 128 ||| BitVec.ofInt IntKind.u8.bits (IntKind.u8.wrap (↑(BitVec.ofInt IntKind.u8.bits (IntKind.u8.wrap (qx1.fdiv (2 ^ Min.min (Int.toNat 12) IntKind.i32.bits))) &&& BitVec.ofInt IntKind.u8.bits 63).toNat : Int))).toNat : Int)),.int .u8 (IntKind.u8.wrap (↑(BitVec.ofInt IntKind.u8.bits 128 ||| BitVec.ofInt IntKind.u8.bits (IntKind.u8.wrap (↑(BitVec.ofInt IntKind.u8.bits (IntKind.u8.wrap (qx1.fdiv (2 ^ Min.min (Int.toNat 6) IntKind.i32.bits))) &&& BitVec.ofInt IntKind.u8.bits 63).toNat : Int))).toNat : Int)),.int .u8 (IntKind.u8.wrap (↑(BitVec.ofInt IntKind.u8.bits 128 ||| BitVec.ofInt IntKind.u8.bits (IntKind.u8.wrap (↑(BitVec.ofInt IntKind.u8.bits (IntKind.u8.wrap qx1) &&& BitVec.ofInt IntKind.u8.bits 63).toNat : Int))).toNat : Int))] 5 (0,0)) (fun n9 => .run (builtin .append #[76,76] 76 #[false,false] #[.slice qa0 qn0 qc0,.slice (some ⟨n9,0,none⟩) 4 4]) (.one (.leaf .sl)) (fun l10 => .done (.returned (.slice l10.1 l10.2.1 l10.2.2))))) (.new (.cells #[.int .u8 239,.int .u8 191,.int .u8 189] 5 (0,0)) (fun n11 => .run (builtin .append #[76,76] 76 #[false,false] #[.slice qa0 qn0 qc0,.slice (some ⟨n11,0,none⟩) 3 3]) (.one (.leaf .sl)) (fun l12 => .done (.returned (.slice l12.1 l12.2.1 l12.2.2))))))))) := by kernel_rfl
/-! the tree of function 106 -/
def s106 : Script := .sym (.nop (.nop (.nop (.nop (.rn (.one (.leaf .sl)) .nil))))) (.cl (.one (.leaf .sl)) .nil)
theorem t106 (qa0 : Option Addr) (qn0 : Nat) (qc0 : Nat) (qx1 : Int) : fnT Tryz.prog Tryz.f106 #[.slice qa0 qn0 qc0,.int .i32 qx1] s106 = .br (Decidable.decide (IntKind.u32.wrap qx1 ≤ 127)) (.new (.cells #[.int .u8 (IntKind.u8.wrap qx1)] 5 (0,0)) (fun n1 => .run (builtin .append #[76,76] 76 #[false,false] #[.slice qa0 qn0 qc0,.slice (some ⟨n1,0,none⟩) 1 1]) (.one (.leaf .sl)) (fun l2 => .done (.returned (.slice l2.1 l2.2.1 l2.2.2))))) (.call 127 #[.slice qa0 qn0 qc0,.int .i32 qx1] (.one (.leaf .sl)) (fun l3 => .done (.returned (.slice l3.1 l3.2.1 l3.2.2)))) := by kernel_rfl
/-! the tree of function 94 -/
def s94 : Script := .cl (.tup []) (.ld .sl (.ld .sl (.cl (.one (.leaf .sl)) (.ld .sl .nil))))
theorem t94 (qa0 : Addr) (qx1 : Int) : fnT Tryz.prog Tryz.f94 #[.pointer (some qa0),.int .i32 qx1] s94 = .call 60 #[.pointer (some qa0)] (.tup []) (fun r1 => .load (qa0.add 1) .sl (fun l2 => .load (qa0.add 1) .sl (fun l3 => .call 106 #[.slice l3.1 l3.2.1 l3.2.2,.int .i32 qx1] (.one (.leaf .sl)) (fun l4 => .store (qa0.add 1) (.slice l4.1 l4.2.1 l4.2.2) (.load (qa0.add 1) .sl (fun l5 => .done (.returned (.tuple #[.int .i64 (IntKind.i64.wrap ((↑l5.snd.fst : Int) - (↑l2.snd.fst : Int))),.nilIface])))))))) := by kernel_rfl
theorem appendRuneN_any (w : World) (base : Nat) (q : Option Addr) (n c : Nat) (bs : List UInt8) (r : Int) (hb : base ≤ w.heap.size) (hown : RowB w base q n c bs) (h0 : -2147483648 ≤ r) (h1 : r ≤ 2147483647) (hn : ¬ (0 ≤ r ∧ r ≤ 127)) (hsz : n + 4 ≤ 140737488355328) :
  Calls Tryz.prog 127 #[.slice q n c,.int .i32 r] w fun e w' => ∃ q' n' c',e = .returned (.slice q' n' c') ∧ GrewB base w q n c w' q' n' c' (bs ++ Lib.encodeRune r) := by
 refine calls_of_fnT mixed Tryz.func127 (s := s127) ?_
 rw [t127]
 simp only [sh6,sh12,sh18,low63]
 refine br_both (fun e => ?_) fun e => ?_
 ·have e : r % 4294967296 ≤ 2047 := by rw [← wrap32]; exact of_decide_eq_true e
  have hr : 128 ≤ r ∧ r ≤ 2047 := by omega
  refine nw fun w1 h1 z1 b1 => ap_z (hown.no h1) (by omega) b1 r ?_ rfl (by omega) fun q' c' w' g => ⟨q',_,c',rfl,Grew.after h1 g⟩
  rw [or192 (by omega) (by omega)]
  simp only [Lib.runeCells,Lib.encodeRuneZ_two hr.1 hr.2,List.map_cons,List.map_nil]
 have e : ¬ r % 4294967296 ≤ 2047 := by rw [← wrap32]; exact of_decide_eq_false e
 refine cut_i mixed s127_3 (fun (v : Bool × Unit) w' => w' = w ∧ v.1 = decide ((2048 ≤ r ∧ r < 55296) ∨ (57343 < r ∧ r ≤ 65535))) (by kernel_rfl) (fun g => ?_) ?_
 ·rw [t127_3]
  refine br_both (fun e' => ⟨rfl,(true,()),rfl,rfl,?_⟩) fun e' => br_both (fun e'' => ⟨rfl,(_,()),rfl,rfl,?_⟩) fun e'' => ⟨rfl,(false,()),rfl,rfl,?_⟩
  ·have e' : r % 4294967296 < 55296 := by rw [← wrap32]; exact of_decide_eq_true e'
   exact (decide_eq_true (.inl (by omega))).symm
  ·have e' : ¬ r % 4294967296 < 55296 := by rw [← wrap32]; exact of_decide_eq_false e'
   have e'' : 57343 < r % 4294967296 := by rw [← wrap32]; exact of_decide_eq_true e''
   refine decide_eq_decide.2 ?_
   rw [wrap32]
   omega
  ·have e' : ¬ r % 4294967296 < 55296 := by rw [← wrap32]; exact of_decide_eq_false e'
   have e'' : ¬ 57343 < r % 4294967296 := by rw [← wrap32]; exact of_decide_eq_false e''
   exact (decide_eq_false (by omega)).symm
 rintro ⟨u,⟨⟩⟩ g w' ⟨rfl,hu⟩
 dsimp only at hu
 subst hu
 refine br_both (fun e3 => ?_) fun e3 => ?_
 ·have e3 := of_decide_eq_true e3
  refine nw fun w1 h1 z1 b1 => ap_z (hown.no h1) (by omega) b1 r ?_ rfl (by omega) fun q' c' w' g => ⟨q',_,c',rfl,Grew.after h1 g⟩
  rw [or224 (by omega) (by omega)]
  simp only [Lib.runeCells,Lib.encodeRuneZ_three e3,List.map_cons,List.map_nil]
 have e3 := of_decide_eq_false e3
 refine cut_i mixed s127_7 (fun (v : Bool × Unit) w'' => w'' = w' ∧ v.1 = decide (65536 ≤ r ∧ r ≤ 1114111)) (by kernel_rfl) (fun g => ?_) ?_
 ·rw [t127_7]
  refine br_both (fun e' => ⟨rfl,(_,()),rfl,rfl,?_⟩) fun e' => ⟨rfl,(false,()),rfl,rfl,?_⟩
  ·have e' : r % 4294967296 > 65535 := by rw [← wrap32]; exact of_decide_eq_true e'
   refine decide_eq_decide.2 ?_
   rw [wrap32]
   omega
  ·have e' : ¬ r % 4294967296 > 65535 := by rw [← wrap32]; exact of_decide_eq_false e'
   exact (decide_eq_false (by omega)).symm
 rintro ⟨u,⟨⟩⟩ g w'' ⟨rfl,hu⟩
 dsimp only at hu
 subst hu
 refine br_both (fun e4 => ?_) fun e4 => ?_
 ·have e4 := of_decide_eq_true e4
  refine nw fun w1 h1 z1 b1 => ap_z (hown.no h1) (by omega) b1 r ?_ rfl (by omega) fun q' c' w' g => ⟨q',_,c',rfl,Grew.after h1 g⟩
  rw [or240 (by omega) (by omega)]
  simp only [Lib.runeCells,Lib.encodeRuneZ_four e4.1 e4.2,List.map_cons,List.map_nil]
 ·have e4 := of_decide_eq_false e4
  refine nw fun w1 h1 z1 b1 => ap_z (hown.no h1) (by omega) b1 r ?_ rfl (by omega) fun q' c' w' g => ⟨q',_,c',rfl,Grew.after h1 g⟩
  have : r < 0 ∨ (55296 ≤ r ∧ r ≤ 57343) ∨ 1114111 < r := by omega
  simp only [Lib.runeCells,Lib.encodeRuneZ_bad this,List.map_cons,List.map_nil]
theorem appendRune_any (w : World) (base : Nat) (q : Option Addr) (n c : Nat) (bs : List UInt8) (r : Int) (hb : base ≤ w.heap.size) (hown : RowB w base q n c bs) (h0 : -2147483648 ≤ r) (h1 : r ≤ 2147483647) (hsz : n + 4 ≤ 140737488355328) :
  Calls Tryz.prog 106 #[.slice q n c,.int .i32 r] w fun e w' => ∃ q' n' c',e = .returned (.slice q' n' c') ∧ GrewB base w q n c w' q' n' c' (bs ++ Lib.encodeRune r) := by
 refine calls_of_fnT mixed Tryz.func106 (s := s106) ?_
 rw [t106]
 refine br_both (fun e => ?_) fun e => ?_
 ·have e : r % 4294967296 ≤ 127 := by rw [← wrap32]; exact of_decide_eq_true e
  have hr : 0 ≤ r ∧ r ≤ 127 := by omega
  refine nw fun w1 h1 z1 b1 => ap_z (hown.no h1) (by omega) b1 r ?_ rfl (by omega) fun q' c' w' g => ⟨q',_,c',rfl,Grew.after h1 g⟩
  simp only [Lib.runeCells,Lib.encodeRuneZ_one hr.1 hr.2,List.map_cons,List.map_nil]
  rw [IntKind.wrap_u8',show r % 256 = r by omega]
 ·have e : ¬ r % 4294967296 ≤ 127 := by rw [← wrap32]; exact of_decide_eq_false e
  refine cl_i (appendRuneN_any w base q n c bs r hb hown h0 h1 (by omega) hsz) ?_
  rintro e w1 ⟨q',n',c',rfl,g⟩
  exact ⟨(q',n',c'),rfl,q',n',c',rfl,g⟩
theorem writeByte_any (base b : Nat) (w : World) (p : Option Addr) (n c : Nat) (bs : List UInt8) (u : UInt8) (h : Bld base w b p n c bs) (hw : base ≤ w.heap.size) (hsz : n + 1 ≤ 140737488355328) :
  Calls Tryz.prog 27 #[.pointer (some ⟨b,0,none⟩),.int .u8 u.toNat] w fun e w' => e = .returned .nilIface ∧ ∃ q m d,GrewW base b w p n c w' q m d (bs ++ [u]) := by
 refine calls_of_fnT mixed Tryz.func27 (s := s27) ?_
 rw [t27]
 refine cl_i (copy_any base b w p n c bs h) ?_
 rintro e w1 ⟨rfl,h1,z1,b1⟩
 refine ⟨(),rfl,?_⟩
 have g1 := h.copied h1 b1
 refine ld_sl (b1.cell 1) (nw fun w2 h2 z2 b2 => ap_b (g1.bld.row.no h2) (by omega) b2 [u] rfl rfl hsz fun q d w3 g3 => ?_)
 have b3 := Grew.blk g3 (g1.bld.row.no h2) (b1.ch h2 (fun h => h)) (by decide)
 refine st_blk b3 (by simp) rfl fun w4 h4 z4 b4 => ⟨rfl,q,n + 1,d,?_⟩
 exact GrewW.trans h g1 (g1.bld.stored (Grew.after h2 g3) h4 rfl b4 ⟨_,b3⟩)
theorem writeRune_any (base b : Nat) (w : World) (p : Option Addr) (n c : Nat) (bs : List UInt8) (r : Int) (h : Bld base w b p n c bs) (hw : base ≤ w.heap.size) (h0 : -2147483648 ≤ r) (h1 : r ≤ 2147483647) (hsz : n + 4 ≤ 140737488355328) :
  Calls Tryz.prog 94 #[.pointer (some ⟨b,0,none⟩),.int .i32 r] w fun e w' => (∃ k : Int,e = .returned (.tuple #[.int .i64 k,.nilIface])) ∧ ∃ q m d,GrewW base b w p n c w' q m d (bs ++ Lib.encodeRune r) := by
 refine calls_of_fnT mixed Tryz.func94 (s := s94) ?_
 rw [t94]
 refine cl_i (copy_any base b w p n c bs h) ?_
 rintro e w1 ⟨rfl,k1,z1,b1⟩
 refine ⟨(),rfl,?_⟩
 have g1 := h.copied k1 b1
 refine ld_sl (b1.cell 1) (ld_sl (b1.cell 1) (cl_i (appendRune_any w1 base p n c bs r (by omega) g1.bld.row h0 h1 hsz) ?_))
 rintro e w2 ⟨q,m,d,rfl,g2⟩
 refine ⟨(q,m,d),rfl,?_⟩
 have b2 := Grew.blk g2 g1.bld.row b1 (by decide)
 refine st_blk b2 (by simp) rfl fun w3 h3 z3 b3 => ld_sl (b3.cell 1) ⟨⟨_,rfl⟩,q,m,d,?_⟩
 exact GrewW.trans h g1 (g1.bld.stored g2 h3 rfl b3 ⟨_,b2⟩)
end Go.Proofs.YtmdmomccibpjbaaGreatDoor
