/- The document's reader: a token that is handed out. The document's reader: numbers, words, signs as the lexer's (plain laws). The document's reader: the walk of its next token. -/
import Derived.Test.YtmdmomccibpjbaaGreatDoorRwk
namespace Go.Proofs.YtmdmomccibpjbaaGreatDoor.E
open Go Tr
open V (rest rest_cases restL sizeB pk_rest cx_i cp_i extract_list pk hexP)
set_option maxRecDepth 100000
set_option maxHeartbeats 2000000
/-- What the reader's next token comes to. -/
def NxR (b : Nat) (s : ByteArray) (i : Nat) (vS vO : Value) (d : Nat) (w : World) (e : Ending) (w' : World) : Prop := Ch (· = b) w w' ∧ match lexB s.size (rest s i) with
 | .ok (t,r) => e = .returned (.tuple #[tok3 t,.int .i64 0]) ∧ TkOk t ∧ ∃ j,j ≤ s.size ∧ r = rest s j ∧ RB w' b s j vS vO d
 | .error (c,a) => (∃ k n t,e = .returned (.tuple #[.agg #[.int .u8 k,.int .i64 (a : Nat),.int .i64 n,.string t],.int .i64 (c : Nat)])) ∧ ∃ j,RB w' b s j vS vO d
/-- The token at m goes to n, and out. -/
theorem tk_out {R : Ending → World → Prop} {Q : Exit → List (Tmp × Value) → World → Prop} {w : World} {n m : Nat} {k a x : Int} {t : ByteArray} {y0 y1 y2 y3 : Value} {c : Int}
  (hm : Blk w m [.int .u8 k,.int .i64 a,.int .i64 x,.string t] tTok3) (hn : Blk w n [y0,y1,y2,y3] tTok3)
  (h : ∀ w',Ch (· = n) w w' → R (.returned (.tuple #[.agg #[.int .u8 k,.int .i64 a,.int .i64 x,.string t],.int .i64 c])) w') :
  wpT Tryz.prog R Q (.load ⟨m,0,none⟩ (.int .u8) (fun x21 => .load ⟨m,1,none⟩ (.int .i64) (fun x22 => .load ⟨m,2,none⟩ (.int .i64) (fun x23 => .load ⟨m,3,none⟩ .str (fun s24 =>
   .store ⟨n,0,none⟩ (.int .u8 x21) (.store ⟨n,1,none⟩ (.int .i64 x22) (.store ⟨n,2,none⟩ (.int .i64 x23) (.store ⟨n,3,none⟩ (.string s24)
    (.load ⟨n,0,none⟩ (.int .u8) (fun x25 => .load ⟨n,1,none⟩ (.int .i64) (fun x26 => .load ⟨n,2,none⟩ (.int .i64) (fun x27 => .load ⟨n,3,none⟩ .str (fun s28 =>
     .done (.returned (.tuple #[.agg #[.int .u8 x25,.int .i64 x26,.int .i64 x27,.string s28],.int .i64 c]))))))))))))))) .pl w := by
 refine ld_int (hm.cell 0) (ld_int (hm.cell 1) (ld_int (hm.cell 2) (ld_str (hm.cell 3) ?_)))
 refine st_blk hn (by simp) rfl fun w7 h7 z7 n7 => st_blk n7 (by simp) rfl fun w8 h8 z8 n8 => st_blk n8 (by simp) rfl fun w9 h9 z9 n9 => st_blk n9 (by simp) rfl fun w10 h10 z10 n10 => ?_
 exact ld_int (n10.cell 0) (ld_int (n10.cell 1) (ld_int (n10.cell 2) (ld_str (n10.cell 3) (h w10 (h7.trans (h8.trans (h9.trans h10)))))))
end Go.Proofs.YtmdmomccibpjbaaGreatDoor.E
namespace Go.Proofs.YtmdmomccibpjbaaGreatDoor.E
open Go Tr
open V (rest rest_cases restL sizeB pk_rest cx_i cp_i extract_list pk hexP)
set_option maxRecDepth 100000
theorem num_law : ∀ (x : Nat) (l : Txt),numB x l = (numB x (l.takeWhile isD)).map fun p => (p.1,l.dropWhile isD)
 | x,[] => rfl
 | x,c :: r => by
  cases hd : isD c with
  | false =>
   rw [numB_end hd,List.takeWhile_cons_of_neg (by rw [hd]; decide),List.dropWhile_cons_of_neg (by rw [hd]; decide)]
   rfl
  | true =>
   rw [List.takeWhile_cons_of_pos hd,List.dropWhile_cons_of_pos hd,numB_dig hd,numB_dig hd]
   by_cases h : (9223372036854775807 - (c.toNat - 48)) / 10 < x
   ·rw [if_pos h,if_pos h]; rfl
   ·rw [if_neg h,if_neg h]
    exact num_law _ r
theorem sign_ok {l x : Txt} (h : signB l = some x) : x ∈ signsM := by
 unfold signB at h
 exact List.mem_of_find?_eq_some h
theorem ok_sign {a : Nat} {x : Txt} {n : Nat} (h : x ∈ signsM) : TkOk ⟨4,a,x,n⟩ where
 wd h := nomatch h
 sg _ := by
  have : ∀ x ∈ signsM,x ≠ tOr ∧ x ≠ tAnd := by decide
  exact this x h
theorem ok_num {a n : Nat} {x : Txt} : TkOk ⟨1,a,x,n⟩ := ⟨(fun h => nomatch h),(fun h => nomatch h)⟩
theorem ok_text {a n : Nat} {x : Txt} : TkOk ⟨3,a,x,n⟩ := ⟨(fun h => nomatch h),(fun h => nomatch h)⟩
theorem ok_end {a n : Nat} {x : Txt} : TkOk ⟨0,a,x,n⟩ := ⟨(fun h => nomatch h),(fun h => nomatch h)⟩
theorem ok_word {a n : Nat} {x : Txt} (h : knownM x = true) : TkOk ⟨2,a,x,n⟩ where
 sg h := nomatch h
 wd _ := by
  show lvlS x = 0
  unfold knownM at h
  rw [Bool.or_eq_true] at h
  rcases h with h | h
  ·have : ∀ x ∈ wordsM,lvlS x = 0 := by decide
   exact this x (List.contains_iff_mem.1 h)
  ·have hc : ∀ p ∈ callsM,lvlS p.1 = 0 := by decide
   obtain ⟨i,hi⟩ := Option.isSome_iff_exists.1 h
   unfold findB at hi
   rw [List.findIdx?_eq_some_iff_getElem] at hi
   obtain ⟨hl,he,-⟩ := hi
   have := hc _ (List.getElem_mem hl)
   rw [beq_iff_eq.1 he] at this
   exact this
end Go.Proofs.YtmdmomccibpjbaaGreatDoor.E
namespace Go.Proofs.YtmdmomccibpjbaaGreatDoor.E
open Go Tr
open V (rest rest_cases restL sizeB pk_rest cx_i cp_i extract_list pk hexP)
set_option maxRecDepth 100000
set_option maxHeartbeats 2000000
/-! the tree of function 21 -/
abbrev fx21_4 (qa0 : Addr) (n1 : Nat) (s2 : ByteArray) : List (Tmp × Value) := [(0,.pointer (some qa0)),(2,.pointer (some ⟨n1,0,none⟩)),(3,.int .i64 0),(4,.string s2)]
abbrev m21_4 : List (Tmp × Comp) := [(5,.leaf (.int .i64))]
abbrev mx21_4 : List (Tmp × Comp) := [(5,.leaf (.int .i64))]
abbrev mr21_4 : List (Tmp × Comp) := []
def s21_4 : Script := .sym (.lit (.lit (.ix (.lit (.lit (.sym .nil .nil)))))) (.lit (.lit (.lit (.lit (.lit .nil)))))
theorem t21_4 (qa0 : Addr) (n1 : Nat) (s2 : ByteArray) (x_5 : Int) (gg4 : Nat → Value) : pieceT Tryz.prog (at_ Tryz.f21 [1,1,1,0,0,0]) 143 (fx21_4 qa0 n1 s2 ++ mvals m21_4 (x_5,())) gg4 (m21_4.map (·.1)) (mx21_4.map (·.1)) (mr21_4.map (·.1)) s21_4 = .br (Decidable.decide (x_5 < (↑s2.size : Int))) (.bidx s2 x_5 (fun c5 => .br (c5 == 32) (.fin .normal [(5,.int .i64 (IntKind.i64.wrap (x_5 + 1)))]) (.fin (.exit 0) [(5,.int .i64 x_5)]))) (.fin (.exit 0) [(5,.int .i64 x_5)]) := by kernel_rfl
abbrev fx21_8 (qa0 : Addr) (n1 : Nat) (s2 : ByteArray) (u6 : Int × Unit) (n7 : Nat) : List (Tmp × Value) := [(0,.pointer (some qa0)),(2,.pointer (some ⟨n1,0,none⟩)),(4,.string s2),(5,.int .i64 u6.1),(6,.pointer (some ⟨n7,0,none⟩))]
abbrev L21_8 : List (Tmp × Value) := []
abbrev mx21_8 : List (Tmp × Comp) := []
abbrev mr21_8 : List (Tmp × Comp) := [(3,.leaf (.int .i64))]
def s21_8 : Script := .sym (.ld (.int .u8) (.ld (.int .i64) (.ld (.int .i64) (.ld .str .nil)))) .nil
theorem t21_8 (qa0 : Addr) (n1 : Nat) (s2 : ByteArray) (u6 : Int × Unit) (n7 : Nat) (gg8 : Nat → Value) : pieceT Tryz.prog (at_ Tryz.f21 [1,1,1,1,1,0]) 143 (fx21_8 qa0 n1 s2 u6 n7 ++ L21_8) gg8 (mx21_8.map (·.1)) [] (mr21_8.map (·.1)) s21_8 = .br (u6.fst == (↑s2.size : Int)) (.store (qa0.add 1) (.int .i64 u6.1) (.load ⟨n7,0,none⟩ (.int .u8) (fun x9 => .load ⟨n7,1,none⟩ (.int .i64) (fun x10 => .load ⟨n7,2,none⟩ (.int .i64) (fun x11 => .load ⟨n7,3,none⟩ .str (fun s12 => .store ⟨n1,0,none⟩ (.int .u8 x9) (.store ⟨n1,1,none⟩ (.int .i64 x10) (.store ⟨n1,2,none⟩ (.int .i64 x11) (.store ⟨n1,3,none⟩ (.string s12) (.fin .ret [(3,.int .i64 0)])))))))))) (.fin .normal []) := by kernel_rfl
abbrev fx21_16 (qa0 : Addr) (n1 : Nat) (s2 : ByteArray) (u6 : Int × Unit) (n7 : Nat) (g13 : Nat → Value) : List (Tmp × Value) := [(0,.pointer (some qa0)),(2,.pointer (some ⟨n1,0,none⟩)),(3,g13 3),(4,.string s2),(5,.int .i64 u6.1),(6,.pointer (some ⟨n7,0,none⟩))]
abbrev m21_16 : List (Tmp × Comp) := [(7,.leaf (.int .i64))]
abbrev mx21_16 : List (Tmp × Comp) := [(7,.leaf (.int .i64))]
abbrev mr21_16 : List (Tmp × Comp) := []
def s21_16 : Script := .sym (.lit (.lit (.ix (.lit (.cl (.one (.leaf .bool)) (.lit (.sym .nil .nil))))))) (.lit (.lit (.lit (.lit (.lit .nil)))))
theorem t21_16 (qa0 : Addr) (n1 : Nat) (s2 : ByteArray) (u6 : Int × Unit) (n7 : Nat) (g13 : Nat → Value) (x_7 : Int) (gg16 : Nat → Value) : pieceT Tryz.prog (at_ Tryz.f21 [1,1,1,1,1,1,1,0,0,1,0,0,0,0]) 143 (fx21_16 qa0 n1 s2 u6 n7 g13 ++ mvals m21_16 (x_7,())) gg16 (m21_16.map (·.1)) (mx21_16.map (·.1)) (mr21_16.map (·.1)) s21_16 = .br (Decidable.decide (x_7 < (↑s2.size : Int))) (.bidx s2 x_7 (fun c17 => .call 42 #[.int .u8 c17] (.one (.leaf .bool)) (fun b18 => .br b18 (.fin .normal [(7,.int .i64 (IntKind.i64.wrap (x_7 + 1)))]) (.fin (.exit 3) [(7,.int .i64 x_7)])))) (.fin (.exit 3) [(7,.int .i64 x_7)]) := by kernel_rfl
abbrev fx21_40 (qa0 : Addr) (n1 : Nat) (s2 : ByteArray) (u6 : Int × Unit) (n7 : Nat) (g13 : Nat → Value) : List (Tmp × Value) := [(0,.pointer (some qa0)),(2,.pointer (some ⟨n1,0,none⟩)),(3,g13 3),(4,.string s2),(5,.int .i64 u6.1),(6,.pointer (some ⟨n7,0,none⟩))]
abbrev m21_40 : List (Tmp × Comp) := [(7,.leaf (.int .i64))]
abbrev mx21_40 : List (Tmp × Comp) := [(7,.leaf (.int .i64))]
abbrev mr21_40 : List (Tmp × Comp) := []
def s21_40 : Script := .sym (.lit (.lit (.ix (.lit (.cl (.one (.leaf .bool)) (.lit (.sym .nil .nil))))))) (.lit (.lit (.lit (.lit (.lit .nil)))))
theorem t21_40 (qa0 : Addr) (n1 : Nat) (s2 : ByteArray) (u6 : Int × Unit) (n7 : Nat) (g13 : Nat → Value) (x_7 : Int) (gg40 : Nat → Value) : pieceT Tryz.prog (at_ Tryz.f21 [1,1,1,1,1,1,1,0,0,1,1,1,0,0,0,0]) 143 (fx21_40 qa0 n1 s2 u6 n7 g13 ++ mvals m21_40 (x_7,())) gg40 (m21_40.map (·.1)) (mx21_40.map (·.1)) (mr21_40.map (·.1)) s21_40 = .br (Decidable.decide (x_7 < (↑s2.size : Int))) (.bidx s2 x_7 (fun c41 => .call 44 #[.int .u8 c41] (.one (.leaf .bool)) (fun b42 => .br b42 (.fin .normal [(7,.int .i64 (IntKind.i64.wrap (x_7 + 1)))]) (.fin (.exit 5) [(7,.int .i64 x_7)])))) (.fin (.exit 5) [(7,.int .i64 x_7)]) := by kernel_rfl
def s21 : Script := .ld .str (.ld (.int .i64) (.lp 0 [0,2,3,4] [5] mx21_4 mr21_4 (.cr 1 [0,2,4,5,6] [] mx21_8 mr21_8 (.ix (.cl (.one (.leaf .bool)) (.sym (.lp 3 [0,2,3,4,5,6] [7] mx21_16 mr21_16 (.nd (.cl (.tup [.leaf (.int .i64),.leaf .bool]) (.sym (.ld (.int .u8) (.ld (.int .i64) (.ld (.int .i64) (.ld .str (.ld (.int .u8) (.ld (.int .i64) (.ld (.int .i64) (.ld .str .nil)))))))) (.ld (.int .u8) (.ld (.int .i64) (.ld (.int .i64) (.ld .str (.ld (.int .u8) (.ld (.int .i64) (.ld (.int .i64) (.ld .str .nil))))))))))) .nil) (.ix (.cl (.one (.leaf .bool)) (.sym (.lp 5 [0,2,3,4,5,6] [7] mx21_40 mr21_40 (.nd (.ld .str (.cl (.one (.leaf .bool)) (.sym (.ld (.int .u8) (.ld (.int .i64) (.ld (.int .i64) (.ld .str (.ld (.int .u8) (.ld (.int .i64) (.ld (.int .i64) (.ld .str .nil)))))))) (.ld (.int .u8) (.ld (.int .i64) (.ld (.int .i64) (.ld .str (.ld (.int .u8) (.ld (.int .i64) (.ld (.int .i64) (.ld .str .nil)))))))))))) .nil) (.ix (.sym (.cl (.one (.leaf (.int .i64))) (.nd (.cl (.tup [.leaf .str,.leaf .bool]) (.sym (.ld (.int .u8) (.ld (.int .i64) (.ld (.int .i64) (.ld .str (.ld (.int .u8) (.ld (.int .i64) (.ld (.int .i64) (.ld .str .nil)))))))) (.ld (.int .u8) (.ld (.int .i64) (.ld (.int .i64) (.ld .str (.ld (.int .u8) (.ld (.int .i64) (.ld (.int .i64) (.ld .str .nil)))))))))))) (.cl (.tup [.agg [.int .u8,.int .i64,.int .i64,.str],.leaf (.int .i64)]) (.ld (.int .u8) (.ld (.int .i64) (.ld (.int .i64) (.ld .str .nil))))))))))))) (.ld (.int .u8) (.ld (.int .i64) (.ld (.int .i64) (.ld .str .nil))))) .nil))
theorem t21 (qa0 : Addr) : fnT Tryz.prog Tryz.f21 #[.pointer (some qa0)] s21 = .new (.cells #[.int .u8 0,.int .i64 0,.int .i64 0,.string (bytesL [])] 64 (0,0)) (fun n1 => .load qa0 .str (fun s2 => .load (qa0.add 1) (.int .i64) (fun x3 => .loop (at_ Tryz.f21 [1,1,1,0,0,0]) 143 (fx21_4 qa0 n1 s2) [(5,.int .i64 x3)] mx21_4 mr21_4 0 (fun u6 g6 => .new (.cells #[.int .u8 0,.int .i64 0,.int .i64 0,.string (bytesL [])] 64 (0,0)) (fun n7 => .store ⟨n7,0,none⟩ (.int .u8 101) (.store ⟨n7,1,none⟩ (.int .i64 u6.1) (.store ⟨n7,2,none⟩ (.int .i64 0) (.store ⟨n7,3,none⟩ (.string (bytesL [])) (.cutr (at_ Tryz.f21 [1,1,1,1,1,0]) 143 (fx21_8 qa0 n1 s2 u6 n7) L21_8 mx21_8 mr21_8 (fun u13 g13 => .bidx s2 u6.1 (fun c14 => .call 42 #[.int .u8 c14] (.one (.leaf .bool)) (fun b15 => .br b15 (.loop (at_ Tryz.f21 [1,1,1,1,1,1,1,0,0,1,0,0,0,0]) 143 (fx21_16 qa0 n1 s2 u6 n7 g13) [(7,.int .i64 u6.1)] mx21_16 mr21_16 3 (fun u19 g19 => .need (Decidable.decide (0 ≤ u6.fst ∧ u6.fst ≤ u19.fst ∧ u19.fst ≤ (↑s2.size : Int))) (.call 43 #[.string (s2.extract u6.fst.toNat u19.fst.toNat)] (.tup [.leaf (.int .i64),.leaf .bool]) (fun r20 => .store (qa0.add 1) (.int .i64 u19.1) (.store ⟨n7,0,none⟩ (.int .u8 110) (.store ⟨n7,2,none⟩ (.int .i64 r20.1) (.br (!r20.snd.fst) (.load ⟨n7,0,none⟩ (.int .u8) (fun x21 => .load ⟨n7,1,none⟩ (.int .i64) (fun x22 => .load ⟨n7,2,none⟩ (.int .i64) (fun x23 => .load ⟨n7,3,none⟩ .str (fun s24 => .store ⟨n1,0,none⟩ (.int .u8 x21) (.store ⟨n1,1,none⟩ (.int .i64 x22) (.store ⟨n1,2,none⟩ (.int .i64 x23) (.store ⟨n1,3,none⟩ (.string s24) (.load ⟨n1,0,none⟩ (.int .u8) (fun x25 => .load ⟨n1,1,none⟩ (.int .i64) (fun x26 => .load ⟨n1,2,none⟩ (.int .i64) (fun x27 => .load ⟨n1,3,none⟩ .str (fun s28 => .done (.returned (.tuple #[.agg #[.int .u8 x25,.int .i64 x26,.int .i64 x27,.string s28],.int .i64 32]))))))))))))))) (.load ⟨n7,0,none⟩ (.int .u8) (fun x29 => .load ⟨n7,1,none⟩ (.int .i64) (fun x30 => .load ⟨n7,2,none⟩ (.int .i64) (fun x31 => .load ⟨n7,3,none⟩ .str (fun s32 => .store ⟨n1,0,none⟩ (.int .u8 x29) (.store ⟨n1,1,none⟩ (.int .i64 x30) (.store ⟨n1,2,none⟩ (.int .i64 x31) (.store ⟨n1,3,none⟩ (.string s32) (.load ⟨n1,0,none⟩ (.int .u8) (fun x33 => .load ⟨n1,1,none⟩ (.int .i64) (fun x34 => .load ⟨n1,2,none⟩ (.int .i64) (fun x35 => .load ⟨n1,3,none⟩ .str (fun s36 => .done (.returned (.tuple #[.agg #[.int .u8 x33,.int .i64 x34,.int .i64 x35,.string s36],.int .i64 0]))))))))))))))))))))) (fun u37 g37 => .stuck)) (.bidx s2 u6.1 (fun c38 => .call 44 #[.int .u8 c38] (.one (.leaf .bool)) (fun b39 => .br b39 (.loop (at_ Tryz.f21 [1,1,1,1,1,1,1,0,0,1,1,1,0,0,0,0]) 143 (fx21_40 qa0 n1 s2 u6 n7 g13) [(7,.int .i64 u6.1)] mx21_40 mr21_40 5 (fun u43 g43 => .store (qa0.add 1) (.int .i64 u43.1) (.store ⟨n7,0,none⟩ (.int .u8 119) (.need (Decidable.decide (0 ≤ u6.fst ∧ u6.fst ≤ u43.fst ∧ u43.fst ≤ (↑s2.size : Int))) (.store ⟨n7,3,none⟩ (.string (s2.extract u6.fst.toNat u43.fst.toNat)) (.load ⟨n7,3,none⟩ .str (fun s44 => .call 45 #[.string s44] (.one (.leaf .bool)) (fun b45 => .br (!b45) (.load ⟨n7,0,none⟩ (.int .u8) (fun x46 => .load ⟨n7,1,none⟩ (.int .i64) (fun x47 => .load ⟨n7,2,none⟩ (.int .i64) (fun x48 => .load ⟨n7,3,none⟩ .str (fun s49 => .store ⟨n1,0,none⟩ (.int .u8 x46) (.store ⟨n1,1,none⟩ (.int .i64 x47) (.store ⟨n1,2,none⟩ (.int .i64 x48) (.store ⟨n1,3,none⟩ (.string s49) (.load ⟨n1,0,none⟩ (.int .u8) (fun x50 => .load ⟨n1,1,none⟩ (.int .i64) (fun x51 => .load ⟨n1,2,none⟩ (.int .i64) (fun x52 => .load ⟨n1,3,none⟩ .str (fun s53 => .done (.returned (.tuple #[.agg #[.int .u8 x50,.int .i64 x51,.int .i64 x52,.string s53],.int .i64 34]))))))))))))))) (.load ⟨n7,0,none⟩ (.int .u8) (fun x54 => .load ⟨n7,1,none⟩ (.int .i64) (fun x55 => .load ⟨n7,2,none⟩ (.int .i64) (fun x56 => .load ⟨n7,3,none⟩ .str (fun s57 => .store ⟨n1,0,none⟩ (.int .u8 x54) (.store ⟨n1,1,none⟩ (.int .i64 x55) (.store ⟨n1,2,none⟩ (.int .i64 x56) (.store ⟨n1,3,none⟩ (.string s57) (.load ⟨n1,0,none⟩ (.int .u8) (fun x58 => .load ⟨n1,1,none⟩ (.int .i64) (fun x59 => .load ⟨n1,2,none⟩ (.int .i64) (fun x60 => .load ⟨n1,3,none⟩ .str (fun s61 => .done (.returned (.tuple #[.agg #[.int .u8 x58,.int .i64 x59,.int .i64 x60,.string s61],.int .i64 0])))))))))))))))))))))) (fun u62 g62 => .stuck)) (.bidx s2 u6.1 (fun c63 => .br (c63 == 34) (.call 46 #[.string s2,.int .i64 u6.1] (.one (.leaf (.int .i64))) (fun x64 => .need (Decidable.decide (0 ≤ u6.fst ∧ u6.fst ≤ x64 ∧ x64 ≤ (↑s2.size : Int))) (.call 47 #[.string (s2.extract u6.fst.toNat x64.toNat)] (.tup [.leaf .str,.leaf .bool]) (fun r65 => .store (qa0.add 1) (.int .i64 x64) (.store ⟨n7,0,none⟩ (.int .u8 116) (.store ⟨n7,3,none⟩ (.string r65.1) (.br (!r65.snd.fst) (.load ⟨n7,0,none⟩ (.int .u8) (fun x66 => .load ⟨n7,1,none⟩ (.int .i64) (fun x67 => .load ⟨n7,2,none⟩ (.int .i64) (fun x68 => .load ⟨n7,3,none⟩ .str (fun s69 => .store ⟨n1,0,none⟩ (.int .u8 x66) (.store ⟨n1,1,none⟩ (.int .i64 x67) (.store ⟨n1,2,none⟩ (.int .i64 x68) (.store ⟨n1,3,none⟩ (.string s69) (.load ⟨n1,0,none⟩ (.int .u8) (fun x70 => .load ⟨n1,1,none⟩ (.int .i64) (fun x71 => .load ⟨n1,2,none⟩ (.int .i64) (fun x72 => .load ⟨n1,3,none⟩ .str (fun s73 => .done (.returned (.tuple #[.agg #[.int .u8 x70,.int .i64 x71,.int .i64 x72,.string s73],.int .i64 33]))))))))))))))) (.load ⟨n7,0,none⟩ (.int .u8) (fun x74 => .load ⟨n7,1,none⟩ (.int .i64) (fun x75 => .load ⟨n7,2,none⟩ (.int .i64) (fun x76 => .load ⟨n7,3,none⟩ .str (fun s77 => .store ⟨n1,0,none⟩ (.int .u8 x74) (.store ⟨n1,1,none⟩ (.int .i64 x75) (.store ⟨n1,2,none⟩ (.int .i64 x76) (.store ⟨n1,3,none⟩ (.string s77) (.load ⟨n1,0,none⟩ (.int .u8) (fun x78 => .load ⟨n1,1,none⟩ (.int .i64) (fun x79 => .load ⟨n1,2,none⟩ (.int .i64) (fun x80 => .load ⟨n1,3,none⟩ .str (fun s81 => .done (.returned (.tuple #[.agg #[.int .u8 x78,.int .i64 x79,.int .i64 x80,.string s81],.int .i64 0])))))))))))))))))))))) (.call 48 #[.pointer (some qa0),.int .i64 u6.1] (.tup [.agg [.int .u8,.int .i64,.int .i64,.str],.leaf (.int .i64)]) (fun r82 => .store ⟨n1,0,none⟩ (.int .u8 r82.1.1) (.store ⟨n1,1,none⟩ (.int .i64 r82.1.2.1) (.store ⟨n1,2,none⟩ (.int .i64 r82.1.2.2.1) (.store ⟨n1,3,none⟩ (.string r82.1.2.2.2.1) (.load ⟨n1,0,none⟩ (.int .u8) (fun x83 => .load ⟨n1,1,none⟩ (.int .i64) (fun x84 => .load ⟨n1,2,none⟩ (.int .i64) (fun x85 => .load ⟨n1,3,none⟩ .str (fun s86 => .done (.returned (.tuple #[.agg #[.int .u8 x83,.int .i64 x84,.int .i64 x85,.string s86],.int .i64 r82.2.1])))))))))))))))))))) (fun u87 g87 => .load ⟨n1,0,none⟩ (.int .u8) (fun x88 => .load ⟨n1,1,none⟩ (.int .i64) (fun x89 => .load ⟨n1,2,none⟩ (.int .i64) (fun x90 => .load ⟨n1,3,none⟩ .str (fun s91 => .done (.returned (.tuple #[.agg #[.int .u8 x88,.int .i64 x89,.int .i64 x90,.string s91],.int .i64 u87.1]))))))))))))) (fun u92 g92 => .stuck)))) := by kernel_rfl
theorem sk_blank {r : Txt} : skB (32 :: r) = skB r := rfl
theorem sk_other {c : UInt8} {r : Txt} (h : c ≠ 32) : skB (c :: r) = c :: r := by
 unfold skB
 rw [if_neg h]
/-- A loop over blanks stops. -/
theorem bl_stop {R : Ending → World → Prop} {Q : Exit → List (Tmp × Value) → World → Prop} {w : World} {s : ByteArray} {j : Nat} {N : Int → T} {E : T} (hst : rest s j = [] ∨ ∃ c r,rest s j = c :: r ∧ c ≠ 32) (h : wpT Tryz.prog R Q E .pl w) :
  wpT Tryz.prog R Q (.br (Decidable.decide ((j : Int) < (↑s.size : Int))) (.bidx s (j : Int) (fun c => .br (c == 32) (N c) E)) E) .pl w := by
 refine br_both (fun e => ?_) fun e => h
 have e := lt_t e
 have hlt : j < s.size := by omega
 refine bi_i (by omega) (by rw [Int.toNat_natCast]; exact hlt) (br_both (fun e => ?_) fun e => h)
 have e : s[j]'hlt = 32 := u8_of (d := 32) (eq_t e)
 rw [pk_rest hlt,e] at hst
 rcases hst with h | ⟨c,r,h,hc⟩
 ·cases h
 ·cases h
  exact absurd rfl hc
theorem clo_le : ∀ (odd : Bool) (l : Txt),cloB odd l ≤ l.length
 | _,[] => Nat.le_refl _
 | odd,c :: r => by
  rw [cloB,List.length_cons]
  split
  ·omega
  ·have := clo_le (decide (c = 92) && !odd) r
   omega
theorem mem_takeWhile {p : UInt8 → Bool} {c : UInt8} : ∀ {l : Txt},c ∈ l.takeWhile p → p c = true
 | [],h => nomatch h
 | x :: l,h => by
  cases hx : p x with
  | false => rw [List.takeWhile_cons_of_neg (by rw [hx]; exact Bool.false_ne_true)] at h; cases h
  | true =>
   rw [List.takeWhile_cons_of_pos hx] at h
   rcases List.mem_cons.1 h with rfl | h
   ·exact hx
   ·exact mem_takeWhile h
theorem sign_le {l x : Txt} (h : signB l = some x) : x.length ≤ l.length := by
 unfold signB at h
 have := List.find?_some h
 exact (List.isPrefixOf_iff_prefix.1 this).length_le
/-- A loop over bytes of one kind: one round. -/
theorem sp_round {R : Ending → World → Prop} {Q : Exit → List (Tmp × Value) → World → Prop} {w : World} {s : ByteArray} {j : Nat} {p : UInt8 → Bool} {f : FuncId} {N E : T}
  (hf : ∀ (w : World) (c : UInt8),Calls Tryz.prog f #[.int .u8 (c.toNat : Nat)] w fun e w' => w' = w ∧ e = .returned (.bool (p c))) (hj : j ≤ s.size)
  (hN : ∀ h : j < s.size,p (s[j]'h) = true → wpT Tryz.prog R Q N .pl w) (hE : (rest s j).takeWhile p = [] → (rest s j).dropWhile p = rest s j → wpT Tryz.prog R Q E .pl w) :
  wpT Tryz.prog R Q (.br (Decidable.decide ((j : Int) < (↑s.size : Int))) (.bidx s (j : Int) (fun c => .call f #[.int .u8 c] (.one (.leaf .bool)) (fun b => .br b N E))) E) .pl w := by
 refine br_both (fun e => ?_) fun e => ?_
 ·have e := lt_t e
  have hlt : j < s.size := by omega
  refine bi_i (by omega) (by rw [Int.toNat_natCast]; exact hlt) (cl_i (hf w _) ?_)
  rintro e w2 ⟨rfl,rfl⟩
  refine ⟨_,rfl,br_both (fun e => hN hlt e) fun e => ?_⟩
  have e : p (s[j]'hlt) = false := e
  refine hE ?_ ?_
  ·rw [pk_rest hlt,List.takeWhile_cons_of_neg (by rw [e]; exact Bool.false_ne_true)]
  ·rw [pk_rest hlt,List.dropWhile_cons_of_neg (by rw [e]; exact Bool.false_ne_true)]
 ·have e := lt_f e
  have hr : rest s j = [] := List.eq_nil_of_length_eq_zero (by rw [restL]; omega)
  exact hE (by rw [hr]; rfl) (by rw [hr]; rfl)
/-- Bytes of one kind, up to a place. -/
structure SpI (p : UInt8 → Bool) (s : ByteArray) (i j : Nat) : Prop where
 lo : i ≤ j
 hi : j ≤ s.size
 tk : (rest s i).takeWhile p = (rest s i).take (j - i) ++ (rest s j).takeWhile p
 dr : (rest s i).dropWhile p = (rest s j).dropWhile p
theorem SpI.start {p : UInt8 → Bool} {s : ByteArray} {i : Nat} (hi : i ≤ s.size) : SpI p s i i := ⟨Nat.le_refl _,hi,by simp,rfl⟩
theorem SpI.step {p : UInt8 → Bool} {s : ByteArray} {i j : Nat} (h : SpI p s i j) (hlt : j < s.size) (hp : p (s[j]'hlt) = true) : SpI p s i (j + 1) := by
 have hr := pk_rest hlt
 refine ⟨by have := h.lo; omega,hlt,?_,?_⟩
 ·rw [take_next h.lo hr,h.tk,hr,List.takeWhile_cons_of_pos (p := p) hp,List.append_assoc]
  rfl
 ·rw [h.dr,hr,List.dropWhile_cons_of_pos (p := p) hp]
theorem SpI.done {p : UInt8 → Bool} {s : ByteArray} {i j : Nat} (h : SpI p s i j) (h1 : (rest s j).takeWhile p = []) (h2 : (rest s j).dropWhile p = rest s j) : (s.extract i j).data.toList = (rest s i).takeWhile p ∧ (rest s i).dropWhile p = rest s j := by
 rw [extract_list,h.tk,h.dr,h1,h2,List.append_nil]
 exact ⟨rfl,rfl⟩
theorem next3_any (w : World) (b : Nat) (s : ByteArray) (i : Nat) (vS vO : Value) (d : Nat) (hb : RB w b s i vS vO d) (hi : i ≤ s.size) (hs : s.size ≤ 100) :
  Calls Tryz.prog 21 #[.pointer (some ⟨b,0,none⟩)] w (NxR b s i vS vO d w) := by
 refine calls_of_fnT mixed Tryz.func21 (s := s21) ?_
 rw [t21]
 simp only [addr_add,Nat.zero_add]
 have hblt := Blk.lt hb
 refine nw fun w1 h1 z1 n1 => ?_
 have b1 : RB w1 b s i vS vO d := Blk.ch hb h1 (fun h => h)
 refine ld_str (Blk.cell b1 0) (ld_int (Blk.cell b1 1) ?_)
 refine loop_i mixed m21_4 s21_4 (by kernel_rfl) (by kernel_rfl)
  (fun (v : Int × Unit) w' => w' = w1 ∧ ∃ j : Nat,v.1 = (j : Nat) ∧ j ≤ s.size ∧ skB (rest s i) = skB (rest s j))
  (fun (v : Int × Unit) _ => s.size - v.1.toNat) ((i : Int),()) rfl ⟨rfl,i,rfl,hi,rfl⟩ ?_
 rintro ⟨_,⟨⟩⟩ g w2 ⟨rfl,j,rfl,hj,hsk⟩
 rw [t21_4]
 dsimp only
 have out : (rest s j = [] ∨ ∃ c r,rest s j = c :: r ∧ c ≠ 32) → skB (rest s i) = rest s j := fun h => by
  rw [hsk]
  rcases h with h | ⟨c,r,h,hc⟩
  ·rw [h]; rfl
  ·rw [h,sk_other hc]
 by_cases hst : rest s j = [] ∨ ∃ c r,rest s j = c :: r ∧ c ≠ 32
 ·refine bl_stop hst ⟨rfl,((j : Int),()),rfl,fun g => ?_⟩
  have hsj := out hst
  dsimp only
  refine nw fun w3 h3 z3 m3 => ?_
  have n3 := n1.ch h3 (fun h => h)
  have b3 : RB w3 b s i vS vO d := Blk.ch b1 h3 (fun h => h)
  have hnlt := n1.lt
  generalize hm : w2.heap.size = m at *
  refine st_blk m3 (by simp) rfl fun w4 h4 z4 m4 => st_blk m4 (by simp) rfl fun w5 h5 z5 m5 => st_blk m5 (by simp) rfl fun w6 h6 z6 m6 => st_blk m6 (by simp) rfl fun w7 h7 z7 m7 => ?_
  have h47 := h4.trans (h5.trans (h6.trans h7))
  have n7 := n3.ch h47 (fun e : w.heap.size = m => by omega)
  have b7 : RB w7 b s i vS vO d := Blk.ch b3 h47 (fun e : b = m => by omega)
  have c7 : Ch No w w7 := (h1.trans h3).then_ h47 (fun k hk (e : k = m) => by omega)
  have hL : lexB s.size (rest s i) = lexB s.size (rest s j) := by
   unfold lexB
   rw [hsj]
   have : skB (rest s j) = rest s j := by
    rcases hst with h | ⟨c,r,h,hc⟩
    ·rw [h]; rfl
    ·rw [h,sk_other hc]
   rw [this]
  have out : ∀ {w' : World},Ch (· = b) w7 w' → Ch (· = b) w w' := fun h => c7.no.trans h
  have hlen : s.size - (rest s j).length = j := by rw [restL]; omega
  refine cutr_i mixed s21_8 (fun _ w' => w' = w7 ∧ j < s.size) (fun (v : Int × Unit) w' => v.1 = 0 ∧ j = s.size ∧ Ch (fun k => k = b ∨ k = w.heap.size) w7 w' ∧ RB w' b s j vS vO d ∧ Blk w' w.heap.size [.int .u8 101,.int .i64 (j : Nat),.int .i64 0,.string (bytesL [])] tTok3) (by kernel_rfl) (by kernel_rfl) (fun g => ?_) ?_ ?_
  ·rw [t21_8]
   simp only [addr_add,Nat.zero_add]
   refine br_both (fun e => ?_) fun e => ⟨(),rfl,rfl,?_⟩
   ·have e := eq_t e
    have hjs : j = s.size := by omega
    refine st_blk b7 (by simp) rfl fun w8 h8 z8 b8 => ?_
    have m8 := m7.ch h8 (fun e : m = b => by omega)
    have n8 := n7.ch h8 (fun e : w.heap.size = b => by omega)
    refine ld_int (m8.cell 0) (ld_int (m8.cell 1) (ld_int (m8.cell 2) (ld_str (m8.cell 3) ?_)))
    refine st_blk n8 (by simp) rfl fun w9 h9 z9 n9 => st_blk n9 (by simp) rfl fun w10 h10 z10 n10 => st_blk n10 (by simp) rfl fun w11 h11 z11 n11 => st_blk n11 (by simp) rfl fun w12 h12 z12 n12 => ?_
    have h912 := h9.trans (h10.trans (h11.trans h12))
    refine ⟨(0,()),rfl,rfl,hjs,(h8.mono fun k h => .inl h).trans (h912.mono fun k h => .inr h),Blk.ch b8 h912 (fun e : b = w.heap.size => by omega),n12⟩
   ·have e := eq_f e
    omega
  ·rintro ⟨⟩ g w8 ⟨rfl,hlt⟩
   obtain ⟨c,hc⟩ : ∃ c,c = s[j]'hlt := ⟨_,rfl⟩
   have hr : rest s j = c :: rest s (j + 1) := by rw [hc]; exact pk_rest hlt
   have hsk2 : skB (rest s j) = c :: rest s (j + 1) := by
    rcases hst with h | ⟨c',r,h,hc'⟩
    ·rw [hr] at h; cases h
    ·rw [h,sk_other hc',← h,hr]
   have hbi : ∀ {R : Ending → World → Prop} {Q : Exit → List (Tmp × Value) → World → Prop} {w : World} {f : Int → T},wpT Tryz.prog R Q (f ((c.toNat : Nat) : Int)) .pl w → wpT Tryz.prog R Q (.bidx s (j : Int) f) .pl w := fun h =>
    bi_i (by omega) (by rw [Int.toNat_natCast]; exact hlt) (by rw [hc] at h; exact h)
   refine hbi (cl_i (digit_any w8 c) ?_)
   rintro e w9 ⟨rfl,rfl⟩
   refine ⟨_,rfl,br_both (fun e => ?_) fun e => ?_⟩
   ·have hdc : isD c = true := e
    refine loop_i mixed m21_16 s21_16 (by kernel_rfl) (by kernel_rfl)
     (fun (v : Int × Unit) w' => w' = w9 ∧ ∃ k : Nat,v.1 = (k : Nat) ∧ SpI isD s j k)
     (fun (v : Int × Unit) _ => s.size - v.1.toNat) ((j : Int),()) rfl ⟨rfl,j,rfl,SpI.start hj⟩ ?_
    rintro ⟨_,⟨⟩⟩ g w10 ⟨rfl,k,rfl,hS⟩
    rw [t21_16]
    dsimp only
    refine sp_round (p := isD) digit_any hS.hi (fun hk hp => ?_) fun h1 h2 => ?_
    ·refine ⟨(_,()),rfl,⟨rfl,k + 1,wrap_succ (by omega) (by omega),hS.step hk hp⟩,?_⟩
     show s.size - (IntKind.i64.wrap ((k : Int) + 1)).toNat < s.size - ((k : Nat) : Int).toNat
     rw [wrap_succ (by omega) (by omega)]
     omega
    ·refine ⟨rfl,((k : Int),()),rfl,fun g => ?_⟩
     obtain ⟨ht,hdr⟩ := hS.done h1 h2
     have hk1 := hS.lo
     have hk2 := hS.hi
     refine nd3 (by omega) (by dsimp only; omega) (by dsimp only; omega) ?_
     dsimp only
     rw [Int.toNat_natCast,Int.toNat_natCast]
     refine cl_i (num3_any w10 (s.extract j k) (by rw [ht]; exact fun c hc => mem_takeWhile hc) (by rw [ByteArray.size_extract]; omega)) ?_
     rintro e w11 ⟨rfl,hx⟩
     rw [ht] at hx
     have hn := num_law 0 (rest s j)
     rw [hdr] at hn
     have hlx : lexB s.size (rest s i) = match numB 0 (rest s j) with
       | none => .error (32,j)
       | some (n,r') => .ok (⟨1,j,[],n⟩,r') := by
      rw [hL,lexB_cons hsk2,if_pos hdc,← hr,hlen]
      rcases numB 0 (rest s j) with _ | ⟨n,r'⟩ <;> rfl
     rw [hn] at hlx
     have fin : ∀ (x : Nat) (c : Int) (w12 : World) (y : Value),Ch (· = b) w11 w12 → RB w12 b s k vS vO d → Blk w12 m [.int .u8 110,.int .i64 (j : Nat),.int .i64 (x : Nat),.string (bytesL [])] tTok3 → True := fun _ _ _ _ _ _ _ => trivial
     cases hnb : numB 0 ((rest s j).takeWhile isD) with
     | none =>
      rw [hnb] at hx hlx
      refine ⟨(0,false,()),hx,?_⟩
      refine st_blk b7 (by simp) rfl fun w12 h12 z12 b12 => ?_
      refine st_blk (m7.ch h12 (fun e : m = b => by omega)) (by simp) rfl fun w13 h13 z13 m13 => st_blk m13 (by simp) rfl fun w14 h14 z14 m14 => ?_
      have n14 := ((n7.ch h12 (fun e : w.heap.size = b => by omega)).ch (h13.trans h14) (fun e : w.heap.size = m => by omega))
      have b14 : RB w14 b s k vS vO d := Blk.ch b12 (h13.trans h14) (fun e : b = m => by omega)
      refine br_true rfl (tk_out m14 n14 fun w15 h15 => ?_)
      refine ⟨?_,?_⟩
      ·exact ((c7.no.trans h12).then_ (h13.trans h14) (fun k hk (e : k = m) => by omega)).then_ h15 (fun k hk (e : k = w.heap.size) => by omega)
      ·rw [hlx]
       exact ⟨⟨_,_,_,rfl⟩,k,Blk.ch b14 h15 (fun e : b = w.heap.size => by omega)⟩
     | some z =>
      obtain ⟨x,r⟩ := z
      rw [hnb] at hx hlx
      refine ⟨((x : Int),true,()),hx,?_⟩
      refine st_blk b7 (by simp) rfl fun w12 h12 z12 b12 => ?_
      refine st_blk (m7.ch h12 (fun e : m = b => by omega)) (by simp) rfl fun w13 h13 z13 m13 => st_blk m13 (by simp) rfl fun w14 h14 z14 m14 => ?_
      have n14 := ((n7.ch h12 (fun e : w.heap.size = b => by omega)).ch (h13.trans h14) (fun e : w.heap.size = m => by omega))
      have b14 : RB w14 b s k vS vO d := Blk.ch b12 (h13.trans h14) (fun e : b = m => by omega)
      refine br_false rfl (tk_out m14 n14 fun w15 h15 => ?_)
      refine ⟨?_,?_⟩
      ·exact ((c7.no.trans h12).then_ (h13.trans h14) (fun k hk (e : k = m) => by omega)).then_ h15 (fun k hk (e : k = w.heap.size) => by omega)
      ·rw [hlx]
       exact ⟨rfl,ok_num,k,hk2,rfl,Blk.ch b14 h15 (fun e : b = w.heap.size => by omega)⟩
   have hdc : isD c = false := e
   refine hbi (cl_i (letter_any w9 c) ?_)
   rintro e w10 ⟨rfl,rfl⟩
   refine ⟨_,rfl,br_both (fun e => ?_) fun e => ?_⟩
   ·have hlc : isL c = true := e
    refine loop_i mixed m21_40 s21_40 (by kernel_rfl) (by kernel_rfl)
     (fun (v : Int × Unit) w' => w' = w10 ∧ ∃ k : Nat,v.1 = (k : Nat) ∧ SpI isL s j k)
     (fun (v : Int × Unit) _ => s.size - v.1.toNat) ((j : Int),()) rfl ⟨rfl,j,rfl,SpI.start hj⟩ ?_
    rintro ⟨_,⟨⟩⟩ g w11 ⟨rfl,k,rfl,hS⟩
    rw [t21_40]
    dsimp only
    refine sp_round (p := isL) letter_any hS.hi (fun hk hp => ?_) fun h1 h2 => ?_
    ·refine ⟨(_,()),rfl,⟨rfl,k + 1,wrap_succ (by omega) (by omega),hS.step hk hp⟩,?_⟩
     show s.size - (IntKind.i64.wrap ((k : Int) + 1)).toNat < s.size - ((k : Nat) : Int).toNat
     rw [wrap_succ (by omega) (by omega)]
     omega
    ·refine ⟨rfl,((k : Int),()),rfl,fun g => ?_⟩
     obtain ⟨ht,hdr⟩ := hS.done h1 h2
     have hk1 := hS.lo
     have hk2 := hS.hi
     dsimp only
     refine st_blk b7 (by simp) rfl fun w12 h12 z12 b12 => ?_
     refine st_blk (m7.ch h12 (fun e : m = b => by omega)) (by simp) rfl fun w13 h13 z13 m13 => ?_
     refine nd3 (by omega) (by omega) (by omega) ?_
     rw [Int.toNat_natCast,Int.toNat_natCast,ba_eq (b := bytesL ((rest s j).takeWhile isL)) ht]
     refine st_blk m13 (by simp) rfl fun w14 h14 z14 m14 => ?_
     have n14 := ((n7.ch h12 (fun e : w.heap.size = b => by omega)).ch (h13.trans h14) (fun e : w.heap.size = m => by omega))
     have b14 : RB w14 b s k vS vO d := Blk.ch b12 (h13.trans h14) (fun e : b = m => by omega)
     have c14 : Ch (· = b) w w14 := (c7.no.trans h12).then_ (h13.trans h14) (fun k hk (e : k = m) => by omega)
     refine ld_str (m14.cell 3) (cl_i (known_any w14 _) ?_)
     rintro e w15 ⟨rfl,rfl⟩
     rw [tb_data]
     have hlx : lexB s.size (rest s i) = if wordsM.contains ((rest s j).takeWhile isL) = true ∨ (findB ((rest s j).takeWhile isL)).isSome = true then .ok (⟨2,j,(rest s j).takeWhile isL,0⟩,rest s k) else .error (34,j) := by
      rw [hL,lexB_cons hsk2,if_neg (by rw [hdc]; decide),if_pos hlc,← hr,hlen,hdr]
     have hkn : (wordsM.contains ((rest s j).takeWhile isL) = true ∨ (findB ((rest s j).takeWhile isL)).isSome = true) ↔ knownM ((rest s j).takeWhile isL) = true := by
      unfold knownM; rw [Bool.or_eq_true]
     refine ⟨_,rfl,br_both (fun e => ?_) fun e => ?_⟩
     ·have e : knownM ((rest s j).takeWhile isL) = false := by simpa using e
      refine tk_out m14 n14 fun w16 h16 => ⟨c14.then_ h16 (fun k hk (e : k = w.heap.size) => by omega),?_⟩
      rw [hlx,if_neg (fun h => by rw [hkn,e] at h; cases h)]
      exact ⟨⟨_,_,_,rfl⟩,k,Blk.ch b14 h16 (fun e : b = w.heap.size => by omega)⟩
     ·have e : knownM ((rest s j).takeWhile isL) = true := by simpa using e
      refine tk_out m14 n14 fun w16 h16 => ⟨c14.then_ h16 (fun k hk (e : k = w.heap.size) => by omega),?_⟩
      rw [hlx,if_pos (hkn.2 e)]
      exact ⟨rfl,ok_word e,k,hk2,rfl,Blk.ch b14 h16 (fun e : b = w.heap.size => by omega)⟩
   have hlc : isL c = false := e
   refine hbi (br_both (fun e => ?_) fun e => ?_)
   ·have hc34 : c = 34 := u8_of (d := 34) (eq_t e)
    refine cl_i (clo_any w10 s j hlt hs) ?_
    rintro e w11 ⟨rfl,rfl⟩
    have hcl := clo_le false (rest s (j + 1))
    rw [restL] at hcl
    refine ⟨_,rfl,?_⟩
    generalize hcc : cloB false (rest s (j + 1)) = cc at *
    refine nd3 (by omega) (by omega) (by omega) ?_
    rw [Int.toNat_natCast,Int.toNat_natCast]
    refine cl_i (meant_any w11 (s.extract j (j + 1 + cc)) (by rw [ByteArray.size_extract]; omega)) ?_
    rintro e w12 ⟨h12,hx⟩
    have hex : (s.extract j (j + 1 + cc)).data.toList = (rest s j).take (1 + cc) := by rw [extract_list,show j + 1 + cc - j = 1 + cc by omega]
    rw [hex] at hx
    have hlx : lexB s.size (rest s i) = match quoB (rest s j) with
      | none => .error (33,j)
      | some (t,r') => .ok (⟨3,j,t,0⟩,r') := by
     rw [hL,lexB_cons hsk2,if_neg (by rw [hdc]; decide),if_neg (by rw [hlc]; decide),if_pos hc34,← hr,hlen]
     rcases quoB (rest s j) with _ | ⟨n,r'⟩ <;> rfl
    have hq := quo_law (rest s (j + 1))
    rw [hcc,← hc34,← hr] at hq
    rw [hq] at hlx
    have b12 : RB w12 b s i vS vO d := Blk.ch b7 h12 (fun h => h)
    have m12 := m7.ch h12 (fun h => h)
    have n12 := n7.ch h12 (fun h => h)
    have c12 : Ch No w w12 := c7.trans h12
    have hdrop : (rest s j).drop (1 + cc) = rest s (j + 1 + cc) := by
     unfold rest
     rw [List.drop_drop]
     congr 1
     omega
    rw [hdrop] at hlx
    cases hmm : meantB ((rest s j).take (1 + cc)) with
    | none =>
     rw [hmm] at hx hlx
     obtain ⟨x,rfl⟩ := hx
     refine ⟨(x,false,()),rfl,?_⟩
     refine st_blk b12 (by simp) rfl fun w13 h13 z13 b13 => ?_
     refine st_blk (m12.ch h13 (fun e : m = b => by omega)) (by simp) rfl fun w14 h14 z14 m14 => st_blk m14 (by simp) rfl fun w15 h15 z15 m15 => ?_
     have n15 := ((n12.ch h13 (fun e : w.heap.size = b => by omega)).ch (h14.trans h15) (fun e : w.heap.size = m => by omega))
     have b15 : RB w15 b s (j + 1 + cc) vS vO d := Blk.ch b13 (h14.trans h15) (fun e : b = m => by omega)
     refine br_true rfl (tk_out m15 n15 fun w16 h16 => ⟨((c12.no.trans h13).then_ (h14.trans h15) (fun k hk (e : k = m) => by omega)).then_ h16 (fun k hk (e : k = w.heap.size) => by omega),?_⟩)
     rw [hlx]
     exact ⟨⟨_,_,_,rfl⟩,_,Blk.ch b15 h16 (fun e : b = w.heap.size => by omega)⟩
    | some t =>
     rw [hmm] at hx hlx
     obtain rfl := hx
     refine ⟨(bytesL t,true,()),rfl,?_⟩
     refine st_blk b12 (by simp) rfl fun w13 h13 z13 b13 => ?_
     refine st_blk (m12.ch h13 (fun e : m = b => by omega)) (by simp) rfl fun w14 h14 z14 m14 => st_blk m14 (by simp) rfl fun w15 h15 z15 m15 => ?_
     have n15 := ((n12.ch h13 (fun e : w.heap.size = b => by omega)).ch (h14.trans h15) (fun e : w.heap.size = m => by omega))
     have b15 : RB w15 b s (j + 1 + cc) vS vO d := Blk.ch b13 (h14.trans h15) (fun e : b = m => by omega)
     refine br_false rfl (tk_out m15 n15 fun w16 h16 => ⟨((c12.no.trans h13).then_ (h14.trans h15) (fun k hk (e : k = m) => by omega)).then_ h16 (fun k hk (e : k = w.heap.size) => by omega),?_⟩)
     rw [hlx]
     exact ⟨rfl,ok_text,j + 1 + cc,by omega,rfl,Blk.ch b15 h16 (fun e : b = w.heap.size => by omega)⟩
   ·have hc34 : c ≠ 34 := by
     rintro rfl
     simp at e
    refine cl_i (sign_any w10 b s i j vS vO d b7 hlt hs) ?_
    rintro e w11 ⟨h11,hx⟩
    have n11 := n7.ch h11 (fun e : w.heap.size = b => by omega)
    have hlx : lexB s.size (rest s i) = match signB (rest s j) with
      | some x => .ok (⟨4,j,x,0⟩,(rest s j).drop x.length)
      | none => .error (31,j) := by
     rw [hL,lexB_cons hsk2,if_neg (by rw [hdc]; decide),if_neg (by rw [hlc]; decide),if_neg hc34,← hr,hlen]
     rcases signB (rest s j) with _ | x <;> rfl
    have fin : ∀ {Q : Exit → List (Tmp × Value) → World → Prop} (k a x c : Int) (t : ByteArray) (j' : Nat),RB w11 b s j' vS vO d → (∀ w',Ch (· = b) w w' → RB w' b s j' vS vO d → NxR b s i vS vO d w (.returned (.tuple #[.agg #[.int .u8 k,.int .i64 a,.int .i64 x,.string t],.int .i64 c])) w') →
      wpT Tryz.prog (NxR b s i vS vO d w) Q (.store ⟨w.heap.size,0,none⟩ (.int .u8 k) (.store ⟨w.heap.size,1,none⟩ (.int .i64 a) (.store ⟨w.heap.size,2,none⟩ (.int .i64 x) (.store ⟨w.heap.size,3,none⟩ (.string t)
       (.load ⟨w.heap.size,0,none⟩ (.int .u8) (fun x83 => .load ⟨w.heap.size,1,none⟩ (.int .i64) (fun x84 => .load ⟨w.heap.size,2,none⟩ (.int .i64) (fun x85 => .load ⟨w.heap.size,3,none⟩ .str (fun s86 =>
        .done (.returned (.tuple #[.agg #[.int .u8 x83,.int .i64 x84,.int .i64 x85,.string s86],.int .i64 c]))))))))))) .pl w11 := fun {Q} k a x c t j' hB hR => by
     refine st_blk n11 (by simp) rfl fun w12 h12 z12 n12 => st_blk n12 (by simp) rfl fun w13 h13 z13 n13 => st_blk n13 (by simp) rfl fun w14 h14 z14 n14 => st_blk n14 (by simp) rfl fun w15 h15 z15 n15 => ?_
     have h1215 := h12.trans (h13.trans (h14.trans h15))
     refine ld_int (n15.cell 0) (ld_int (n15.cell 1) (ld_int (n15.cell 2) (ld_str (n15.cell 3) ?_)))
     exact hR w15 ((c7.no.trans h11).then_ h1215 (fun k hk (e : k = w.heap.size) => by omega)) (Blk.ch hB h1215 (fun e : b = w.heap.size => by omega))
    cases hsg : signB (rest s j) with
    | some x =>
     rw [hsg] at hx hlx
     obtain ⟨rfl,hB⟩ := hx
     refine ⟨((115,(j : Int),0,bytesL x,()),0,()),rfl,fin 115 (j : Nat) 0 0 (bytesL x) _ hB fun w' hc hB' => ⟨hc,?_⟩⟩
     rw [hlx]
     have hle : j + x.length ≤ s.size := by
      have := sign_le hsg
      rw [restL] at this
      omega
     refine ⟨rfl,ok_sign (sign_ok hsg),j + x.length,hle,?_,hB'⟩
     unfold rest
     rw [List.drop_drop]
    | none =>
     rw [hsg] at hx hlx
     obtain ⟨⟨t,rfl⟩,hB⟩ := hx
     refine ⟨((115,(j : Int),0,t,()),31,()),rfl,fin 115 (j : Nat) 0 31 t _ hB fun w' hc hB' => ⟨hc,?_⟩⟩
     rw [hlx]
     exact ⟨⟨_,_,_,rfl⟩,_,hB'⟩
  ·rintro ⟨u,⟨⟩⟩ g w8 ⟨hu,hjs,h8,b8,n8⟩
   dsimp only at hu ⊢
   subst hu
   refine ld_int (n8.cell 0) (ld_int (n8.cell 1) (ld_int (n8.cell 2) (ld_str (n8.cell 3) ⟨c7.no.then_ h8 (fun k hk h => h.resolve_right (by omega)),?_⟩)))
   have hr : rest s j = [] := List.eq_nil_of_length_eq_zero (by rw [restL]; omega)
   have hlx : lexB s.size (rest s i) = .ok (⟨0,s.size,[],0⟩,[]) := by
    rw [hL,hr]
    rfl
   rw [hlx,← hjs]
   exact ⟨rfl,ok_end,j,by omega,hr.symm,b8⟩
 ·have hlt : j < s.size := by
   rcases rest_cases s j hj with ⟨hr,_⟩ | ⟨hlt,_⟩
   ·exact absurd (.inl hr) hst
   ·exact hlt
  have hr := pk_rest hlt
  have h32 : s[j]'hlt = 32 := Decidable.byContradiction fun h => hst (.inr ⟨_,_,hr,h⟩)
  refine br_true (decide_eq_true (by omega)) (bi_i (by omega) (by rw [Int.toNat_natCast]; exact hlt) (br_true ?_ ?_))
  ·rw [show s[((j : Nat) : Int).toNat]'hlt = 32 from h32]; rfl
  ·refine ⟨(_,()),rfl,⟨rfl,j + 1,wrap_succ (by omega) (by omega),hlt,?_⟩,?_⟩
   ·rw [hsk,hr,h32,sk_blank]
   ·show s.size - (IntKind.i64.wrap ((j : Int) + 1)).toNat < s.size - ((j : Nat) : Int).toNat
    rw [wrap_succ (by omega) (by omega)]
    omega
end Go.Proofs.YtmdmomccibpjbaaGreatDoor.E
