/- The document's writer: pieces put together, brackets, levels, rows, texts in quotes. The document's writer: the piece of a step. -/
import Derived.Test.YtmdmomccibpjbaaGreatDoorCnb
import Derived.Test.YtmdmomccibpjbaaGreatDoorRxf
import Derived.Test.YtmdmomccibpjbaaGreatDoorRdx
namespace Go.Proofs.YtmdmomccibpjbaaGreatDoor.E
open Go Tr
open V (rest rest_cases restL sizeB pk_rest cx_i cp_i extract_list pk hexP)
set_option maxRecDepth 100000
set_option maxHeartbeats 2000000
/-! the tree of function 65 -/
abbrev fx65_1 (qs0 : ByteArray) (qs1 : ByteArray) : List (Tmp × Value) := [(0,.string qs0),(1,.string qs1)]
abbrev mx65_1 : List (Tmp × Comp) := [(23,.leaf .bool)]
def s65_1 : Script := .sym (.lit (.lit (.sym (.lit (.lit (.lit (.lit (.ix (.lit (.cl (.one (.leaf .bool)) (.lit (.sym (.lit (.ix (.lit (.cl (.one (.leaf .bool)) (.lit .nil))))) (.lit (.lit (.lit .nil)))))))))))) (.lit (.lit (.lit (.lit (.lit (.lit (.lit (.lit (.lit (.lit .nil))))))))))))) (.lit (.lit (.lit (.lit (.lit (.lit (.lit (.lit (.lit (.lit (.lit (.lit (.lit .nil)))))))))))))
theorem t65_1 (qs0 : ByteArray) (qs1 : ByteArray) (gg1 : Nat → Value) : pieceT Tryz.prog (at_ Tryz.f65 [1,0,0]) 31 (fx65_1 qs0 qs1) gg1 (mx65_1.map (·.1)) [] [] s65_1 = .br (!qs0.toList == (bytesL []).toList) (.br (!qs1.toList == (bytesL []).toList) (.bidx qs0 (IntKind.i64.wrap ((↑qs0.size : Int) - 1)) (fun c2 => .call 44 #[.int .u8 c2] (.one (.leaf .bool)) (fun b3 => .br b3 (.bidx qs1 0 (fun c4 => .call 44 #[.int .u8 c4] (.one (.leaf .bool)) (fun b5 => .fin .normal [(23,.bool b5)]))) (.fin .normal [(23,.bool false)])))) (.fin .normal [(23,.bool false)])) (.fin .normal [(23,.bool false)]) := by kernel_rfl
def s65 : Script := .ct 2 [0,1] mx65_1 (.sym (.nd (.nd .nil)) (.nd .nil))
theorem t65 (qs0 : ByteArray) (qs1 : ByteArray) : fnT Tryz.prog Tryz.f65 #[.string qs0,.string qs1] s65 = .cut (at_ Tryz.f65 [1,0,0]) 31 (fx65_1 qs0 qs1) mx65_1 (fun u6 g6 => .br u6.1 (.need (Decidable.decide (qs0.size + (bytesL [32]).size ≤ 9223372036854775807)) (.need (Decidable.decide ((qs0 ++ bytesL [32]).size + qs1.size ≤ 9223372036854775807)) (.done (.returned (.string (qs0 ++ bytesL [32] ++ qs1)))))) (.need (Decidable.decide (qs0.size + qs1.size ≤ 9223372036854775807)) (.done (.returned (.string (qs0 ++ qs1)))))) := by kernel_rfl
/-! the tree of function 66 -/
def s66 : Script := .ld (.int .i64) (.sym (.ld .str (.nd (.nd .nil))) (.ld .str .nil))
theorem t66 (qs0_0 : ByteArray) (qx0_1 : Int) (qx1 : Int) : fnT Tryz.prog Tryz.f66 #[.agg #[.string qs0_0,.int .i64 qx0_1],.int .i64 qx1] s66 = .new (.cells #[.string qs0_0,.int .i64 qx0_1] 125 (0,0)) (fun n1 => .load ⟨n1,1,none⟩ (.int .i64) (fun x2 => .br (Decidable.decide (x2 < qx1)) (.load ⟨n1,0,none⟩ .str (fun s3 => .need (Decidable.decide ((bytesL [40]).size + s3.size ≤ 9223372036854775807)) (.need (Decidable.decide ((bytesL [40] ++ s3).size + (bytesL [41]).size ≤ 9223372036854775807)) (.done (.returned (.string (bytesL [40] ++ s3 ++ bytesL [41]))))))) (.load ⟨n1,0,none⟩ .str (fun s4 => .done (.returned (.string s4)))))) := by kernel_rfl
/-! the tree of function 64 -/
abbrev fx64_1 (qs0 : ByteArray) : List (Tmp × Value) := [(5,.string qs0)]
abbrev mx64_1 : List (Tmp × Comp) := [(10,.leaf .bool)]
def s64_1 : Script := .sym .nil (.sym .nil (.sym .nil (.sym .nil (.sym .nil .nil))))
theorem t64_1 (qs0 : ByteArray) (gg1 : Nat → Value) : pieceT Tryz.prog (at_ Tryz.f64 [1,0,1,0,1,1,1,1,0]) 24 (fx64_1 qs0) gg1 (mx64_1.map (·.1)) [] [] s64_1 = .br (qs0.toList == (bytesL [61,61]).toList) (.fin .normal [(10,.bool true)]) (.br (qs0.toList == (bytesL [33,61]).toList) (.fin .normal [(10,.bool true)]) (.br (qs0.toList == (bytesL [60]).toList) (.fin .normal [(10,.bool true)]) (.br (qs0.toList == (bytesL [60,61]).toList) (.fin .normal [(10,.bool true)]) (.br (qs0.toList == (bytesL [62]).toList) (.fin .normal [(10,.bool true)]) (.fin .normal [(10,.bool (qs0.toList == (bytesL [62,61]).toList))]))))) := by kernel_rfl
abbrev fx64_3 (qs0 : ByteArray) : List (Tmp × Value) := [(5,.string qs0)]
abbrev mx64_3 : List (Tmp × Comp) := [(17,.leaf .bool)]
def s64_3 : Script := .sym .nil .nil
theorem t64_3 (qs0 : ByteArray) (gg3 : Nat → Value) : pieceT Tryz.prog (at_ Tryz.f64 [1,0,1,0,1,1,1,1,1,1,0]) 24 (fx64_3 qs0) gg3 (mx64_3.map (·.1)) [] [] s64_3 = .br (qs0.toList == (bytesL [43]).toList) (.fin .normal [(17,.bool true)]) (.fin .normal [(17,.bool (qs0.toList == (bytesL [45]).toList))]) := by kernel_rfl
def s64 : Script := .sym .nil (.sym .nil (.ct 0 [5] mx64_1 (.sym .nil (.ct 0 [5] mx64_3 (.sym .nil (.sym (.lit .nil) (.sym (.lit .nil) (.sym .nil .nil))))))))
theorem t64 (qs0 : ByteArray) : fnT Tryz.prog Tryz.f64 #[.string qs0] s64 = .br (qs0.toList == (bytesL [111,114]).toList) (.done (.returned (.tuple #[.int .i64 1,.int .i64 1,.int .i64 2]))) (.br (qs0.toList == (bytesL [97,110,100]).toList) (.done (.returned (.tuple #[.int .i64 2,.int .i64 2,.int .i64 3]))) (.cut (at_ Tryz.f64 [1,0,1,0,1,1,1,1,0]) 24 (fx64_1 qs0) mx64_1 (fun u2 g2 => .br u2.1 (.done (.returned (.tuple #[.int .i64 4,.int .i64 5,.int .i64 5]))) (.cut (at_ Tryz.f64 [1,0,1,0,1,1,1,1,1,1,0]) 24 (fx64_3 qs0) mx64_3 (fun u4 g4 => .br u4.1 (.done (.returned (.tuple #[.int .i64 5,.int .i64 5,.int .i64 6]))) (.br (qs0.toList == (bytesL [42]).toList) (.done (.returned (.tuple #[.int .i64 6,.int .i64 6,.int .i64 7]))) (.br (qs0.toList == (bytesL [47]).toList) (.done (.returned (.tuple #[.int .i64 6,.int .i64 6,.int .i64 7]))) (.br (qs0.toList == (bytesL [37]).toList) (.done (.returned (.tuple #[.int .i64 6,.int .i64 6,.int .i64 7]))) (.done (.returned (.tuple #[.int .i64 0,.int .i64 0,.int .i64 0]))))))))))) := by kernel_rfl
/-! the tree of function 67 -/
abbrev fx67_1 (qa0 : Option Addr) (qn0 : Nat) (qc0 : Nat) : List (Tmp × Value) := [(0,.slice qa0 qn0 qc0),(2,.string (bytesL []))]
abbrev m67_1 : List (Tmp × Comp) := [(3,.leaf .str),(4,.leaf (.int .i64))]
abbrev mx67_1 : List (Tmp × Comp) := [(3,.leaf .str)]
abbrev mr67_1 : List (Tmp × Comp) := []
def s67_1 : Script := .sym (.sym (.nd (.ix (.ld .str (.nd .nil)))) (.ix (.ld .str (.nd .nil)))) .nil
theorem t67_1 (qa0 : Option Addr) (qn0 : Nat) (qc0 : Nat) (s_3 : ByteArray) (x_4 : Int) (gg1 : Nat → Value) : pieceT Tryz.prog (at_ Tryz.f67 [1,1,0,1,0,0]) 23 (fx67_1 qa0 qn0 qc0 ++ mvals m67_1 (s_3,x_4,())) gg1 (m67_1.map (·.1)) (mx67_1.map (·.1)) (mr67_1.map (·.1)) s67_1 = .br (Decidable.decide (x_4 < (↑qn0 : Int))) (.br (Decidable.decide (x_4 > 0)) (.need (Decidable.decide (s_3.size + (bytesL [44]).size ≤ 9223372036854775807)) (.idx qa0 x_4 qn0 2 (fun a2 => .load a2 .str (fun s3 => .need (Decidable.decide ((s_3 ++ bytesL [44]).size + s3.size ≤ 9223372036854775807)) (.fin .normal [(3,.string (s_3 ++ bytesL [44] ++ s3)),(4,.int .i64 (IntKind.i64.wrap (x_4 + 1)))]))))) (.idx qa0 x_4 qn0 2 (fun a4 => .load a4 .str (fun s5 => .need (Decidable.decide (s_3.size + s5.size ≤ 9223372036854775807)) (.fin .normal [(3,.string (s_3 ++ s5)),(4,.int .i64 (IntKind.i64.wrap (x_4 + 1)))]))))) (.fin (.exit 0) [(3,.string s_3)]) := by kernel_rfl
def s67 : Script := .lp 0 [0,2] [3,4] mx67_1 mr67_1 .nil .nil
theorem t67 (qa0 : Option Addr) (qn0 : Nat) (qc0 : Nat) : fnT Tryz.prog Tryz.f67 #[.slice qa0 qn0 qc0] s67 = .loop (at_ Tryz.f67 [1,1,0,1,0,0]) 23 (fx67_1 qa0 qn0 qc0) [(3,.string (bytesL [])),(4,.int .i64 0)] mx67_1 mr67_1 0 (fun u6 g6 => .done (.returned (.string u6.1))) (fun u7 g7 => .stuck) := by kernel_rfl
/-! the tree of function 68 -/
abbrev fx68_2 (qs0 : ByteArray) : List (Tmp × Value) := [(0,.string qs0),(2,.string (bytesL []))]
abbrev m68_2 : List (Tmp × Comp) := [(3,.leaf .sl),(4,.leaf (.int .i64))]
abbrev mx68_2 : List (Tmp × Comp) := [(3,.leaf .sl)]
abbrev mr68_2 : List (Tmp × Comp) := []
abbrev fx68_4 (qs0 : ByteArray) (l_3 : Option Addr × Nat × Nat) (x_4 : Int) (c3 : Int) : List (Tmp × Value) := [(0,.string qs0),(3,.slice l_3.1 l_3.2.1 l_3.2.2),(4,.int .i64 x_4),(5,.int .u8 c3)]
abbrev mx68_4 : List (Tmp × Comp) := [(25,.leaf .bool)]
def s68_4 : Script := .sym (.lit (.lit .nil)) (.lit (.lit .nil))
theorem t68_4 (qs0 : ByteArray) (l_3 : Option Addr × Nat × Nat) (x_4 : Int) (c3 : Int) (gg4 : Nat → Value) : pieceT Tryz.prog (at_ Tryz.f68 [1,1,0,1,0,0,1,0,0,1,0,0]) 64 (fx68_4 qs0 l_3 x_4 c3) gg4 (mx68_4.map (·.1)) [] [] s68_4 = .br (c3 == 34) (.fin .normal [(25,.bool true)]) (.fin .normal [(25,.bool (c3 == 92))]) := by kernel_rfl
abbrev fx68_12 (qs0 : ByteArray) (l_3 : Option Addr × Nat × Nat) (x_4 : Int) (c3 : Int) : List (Tmp × Value) := [(0,.string qs0),(3,.slice l_3.1 l_3.2.1 l_3.2.2),(4,.int .i64 x_4),(5,.int .u8 c3)]
abbrev mx68_12 : List (Tmp × Comp) := [(48,.leaf .bool)]
def s68_12 : Script := .sym (.lit (.lit .nil)) (.lit (.lit .nil))
theorem t68_12 (qs0 : ByteArray) (l_3 : Option Addr × Nat × Nat) (x_4 : Int) (c3 : Int) (gg12 : Nat → Value) : pieceT Tryz.prog (at_ Tryz.f68 [1,1,0,1,0,0,1,0,0,1,0,1,1,1,1,1,1,0]) 64 (fx68_12 qs0 l_3 x_4 c3) gg12 (mx68_12.map (·.1)) [] [] s68_12 = .br (Decidable.decide (c3 ≥ 32)) (.fin .normal [(48,.bool (Decidable.decide (c3 ≤ 126)))]) (.fin .normal [(48,.bool false)]) := by kernel_rfl
def s68_2 : Script := .sym (.ix (.ct 0 [0,3,4,5] mx68_4 (.sym (.nop (.nop (.nop (.rn (.one (.leaf .sl)) .nil)))) (.sym (.nop (.nop (.rn (.one (.leaf .sl)) .nil))) (.sym (.nop (.nop (.rn (.one (.leaf .sl)) .nil))) (.ct 0 [0,3,4,5] mx68_12 (.sym (.nop (.nop (.nop (.rn (.one (.leaf .sl)) .nil)))) (.hd0 (.hq 0 (.hq 1 (.hq 2 (.hq 3 (.ix (.hq 4 (.hq 5 (.hq 6 (.ix (.he 7 (.he 8 (.rn (.one (.leaf .sl)) (.hq 9 .nil))))))))))))))))))))) .nil
theorem t68_2 (qs0 : ByteArray) (l_3 : Option Addr × Nat × Nat) (x_4 : Int) (gg2 : Nat → Value) : pieceT Tryz.prog (at_ Tryz.f68 [1,1,0,1,0,0]) 64 (fx68_2 qs0 ++ mvals m68_2 (l_3,x_4,())) gg2 (m68_2.map (·.1)) (mx68_2.map (·.1)) (mr68_2.map (·.1)) s68_2 = .br (Decidable.decide (x_4 < (↑qs0.size : Int))) (.bidx qs0 x_4 (fun c3 => .cut (at_ Tryz.f68 [1,1,0,1,0,0,1,0,0,1,0,0]) 64 (fx68_4 qs0 l_3 x_4 c3) mx68_4 (fun u5 g5 => .br u5.1 (.new (.cells #[.int .u8 92,.int .u8 c3] 5 (0,0)) (fun n6 => .run (builtin .append #[76,76] 76 #[false,false] #[.slice l_3.1 l_3.2.1 l_3.2.2,.slice (some ⟨n6,0,none⟩) 2 2]) (.one (.leaf .sl)) (fun l7 => .fin .normal [(3,.slice l7.1 l7.2.1 l7.2.2),(4,.int .i64 (IntKind.i64.wrap (x_4 + 1)))]))) (.br (c3 == 10) (.new (.cells #[.int .u8 92,.int .u8 110] 5 (0,0)) (fun n8 => .run (builtin .append #[76,76] 76 #[false,false] #[.slice l_3.1 l_3.2.1 l_3.2.2,.slice (some ⟨n8,0,none⟩) 2 2]) (.one (.leaf .sl)) (fun l9 => .fin .normal [(3,.slice l9.1 l9.2.1 l9.2.2),(4,.int .i64 (IntKind.i64.wrap (x_4 + 1)))]))) (.br (c3 == 9) (.new (.cells #[.int .u8 92,.int .u8 116] 5 (0,0)) (fun n10 => .run (builtin .append #[76,76] 76 #[false,false] #[.slice l_3.1 l_3.2.1 l_3.2.2,.slice (some ⟨n10,0,none⟩) 2 2]) (.one (.leaf .sl)) (fun l11 => .fin .normal [(3,.slice l11.1 l11.2.1 l11.2.2),(4,.int .i64 (IntKind.i64.wrap (x_4 + 1)))]))) (.cut (at_ Tryz.f68 [1,1,0,1,0,0,1,0,0,1,0,1,1,1,1,1,1,0]) 64 (fx68_12 qs0 l_3 x_4 c3) mx68_12 (fun u13 g13 => .br u13.1 (.new (.cells #[.int .u8 c3] 5 (0,0)) (fun n14 => .run (builtin .append #[76,76] 76 #[false,false] #[.slice l_3.1 l_3.2.1 l_3.2.2,.slice (some ⟨n14,0,none⟩) 1 1]) (.one (.leaf .sl)) (fun l15 => .fin .normal [(3,.slice l15.1 l15.2.1 l15.2.2),(4,.int .i64 (IntKind.i64.wrap (x_4 + 1)))]))) (.hdrawn (.bidx (bytesL [48,49,50,51,52,53,54,55,56,57,97,98,99,100,101,102]) (IntKind.u8.wrap (c3.tdiv 16)) (fun c16 => .bidx (bytesL [48,49,50,51,52,53,54,55,56,57,97,98,99,100,101,102]) (c3.tmod 16) (fun c17 => .eff (.new (.cells #[.int .u8 92,.int .u8 120,.int .u8 c16,.int .u8 c17] 5 (0,0)) (fun n18 => .back (.eff (.run (builtin .append #[76,76] 76 #[false,false] #[.slice l_3.1 l_3.2.1 l_3.2.2,.slice (some ⟨n18,0,none⟩) 4 4]) (.one (.leaf .sl)) (fun l19 => .back (.undrawn (.fin .normal [(3,.slice l19.1 l19.2.1 l19.2.2),(4,.int .i64 (IntKind.i64.wrap (x_4 + 1)))])))))))))))))))))) (.fin (.exit 0) [(3,.slice l_3.1 l_3.2.1 l_3.2.2)]) := by kernel_rfl
def s68 : Script := .lp 0 [0,2] [3,4] mx68_2 mr68_2 (.nop (.nop (.rn (.one (.leaf .sl)) (.nop (.nop (.rn (.one (.leaf .str)) .nil)))))) .nil
theorem t68 (qs0 : ByteArray) : fnT Tryz.prog Tryz.f68 #[.string qs0] s68 = .new (.cells #[.int .u8 34] 5 (0,0)) (fun n1 => .loop (at_ Tryz.f68 [1,1,0,1,0,0]) 64 (fx68_2 qs0) [(3,.slice (some ⟨n1,0,none⟩) 1 1),(4,.int .i64 0)] mx68_2 mr68_2 0 (fun u20 g20 => .new (.cells #[.int .u8 34] 5 (0,0)) (fun n21 => .run (builtin .append #[76,76] 76 #[false,false] #[.slice u20.1.1 u20.1.2.1 u20.1.2.2,.slice (some ⟨n21,0,none⟩) 1 1]) (.one (.leaf .sl)) (fun l22 => .run (vNext (convert 76 9 (.slice l22.1 l22.2.1 l22.2.2))) (.one (.leaf .str)) (fun s23 => .done (.returned (.string s23)))))) (fun u24 g24 => .stuck)) := by kernel_rfl
abbrev tPiece : TypeId := 125
theorem tb_app (a b : Txt) : bytesL a ++ bytesL b = bytesL (a ++ b) := by
 refine ba_eq ?_
 rw [ByteArray.data_append,Array.toList_append]
theorem nd_sz {a : ByteArray} {b : ByteArray} {k : T} {R : Ending → World → Prop} {Q : Exit → List (Tmp × Value) → World → Prop} {m : Md} {w : World} (h1 : a.size + b.size ≤ 9223372036854775807) (h : wpT Tryz.prog R Q k m w) : wpT Tryz.prog R Q (.need (Decidable.decide (a.size + b.size ≤ 9223372036854775807)) k) m w := nd_i (decide_eq_true h1) h
theorem end_some {a : Txt} (h : a ≠ []) : ∃ hl : a.length - 1 < a.length,endL a = isL (a[a.length - 1]'hl) := by
 have hp : 0 < a.length := List.length_pos_iff.2 h
 refine ⟨by omega,?_⟩
 unfold endL
 rw [List.getLast?_eq_getElem?,List.getElem?_eq_getElem (by omega)]
theorem glued_any (w : World) (a b : Txt) (ha : a.length ≤ 1000000) (hb : b.length ≤ 1000000) :
  Calls Tryz.prog 65 #[.string (bytesL a),.string (bytesL b)] w fun e w' => w' = w ∧ e = .returned (.string (bytesL (gluedB a b))) := by
 refine calls_of_fnT mixed Tryz.func65 (s := s65) ?_
 rw [t65]
 refine cut_i mixed s65_1 (fun (v : Bool × Unit) w' => w' = w ∧ v.1 = (endL a && wordyB b)) (by kernel_rfl) (fun g => ?_) ?_
 ·rw [t65_1]
  simp only [tb_list]
  refine br_both (fun e => ?_) fun e => ?_
  ·have e : a ≠ [] := by simpa using e
   obtain ⟨hl,hle⟩ := end_some e
   refine br_both (fun e2 => ?_) fun e2 => ?_
   ·have e2 : b ≠ [] := by simpa using e2
    have hw : IntKind.i64.wrap (((bytesL a).size : Int) - 1) = ((a.length - 1 : Nat) : Int) := by rw [tb_size a,wrap_in (by omega) (by omega)]; omega
    rw [hw]
    refine bi_i (by omega) (by rw [Int.toNat_natCast,tb_size a]; exact hl) (cl_i (letter_any w _) ?_)
    rintro e w2 ⟨rfl,rfl⟩
    refine ⟨_,rfl,?_⟩
    have hc : isL ((bytesL a)[(((a.length - 1 : Nat) : Int)).toNat]'(by rw [Int.toNat_natCast,tb_size a]; exact hl)) = endL a := by rw [hle]; rfl
    refine br_both (fun e => ?_) fun e => ?_
    ·have e := hc.symm.trans e
     obtain ⟨c,r,rfl⟩ : ∃ c r,b = c :: r := by
      cases b with
      | nil => exact absurd rfl e2
      | cons c r => exact ⟨c,r,rfl⟩
     refine bi_i (by omega) (by rw [tb_size]; simp) (cl_i (letter_any w2 _) ?_)
     rintro e' w3 ⟨rfl,rfl⟩
     refine ⟨_,rfl,rfl,(_,()),rfl,rfl,?_⟩
     rw [e,Bool.true_and]
     rfl
    ·have e := hc.symm.trans e
     refine ⟨rfl,(false,()),rfl,rfl,?_⟩
     rw [e,Bool.false_and]
   ·have e2 : b = [] := by simpa using e2
    refine ⟨rfl,(false,()),rfl,rfl,?_⟩
    rw [e2]
    show false = (endL a && false)
    rw [Bool.and_false]
  ·have e : a = [] := by simpa using e
   refine ⟨rfl,(false,()),rfl,rfl,?_⟩
   rw [e]
   rfl
 rintro ⟨u,⟨⟩⟩ g w2 ⟨rfl,hu⟩
 dsimp only at hu
 subst hu
 unfold gluedB
 refine br_both (fun e => ?_) fun e => ?_
 ·have e : (endL a && wordyB b) = true := e
  rw [if_pos e,tb_app]
  refine nd_sz (by rw [tb_size,tb_size]; simp; omega) (nd_sz (by rw [tb_size,tb_size]; simp; omega) ⟨rfl,?_⟩)
  rw [tb_app]
  simp
 ·have e : (endL a && wordyB b) = false := e
  rw [if_neg (by rw [e]; decide)]
  refine nd_sz (by rw [tb_size,tb_size]; omega) ⟨rfl,?_⟩
  rw [tb_app]
theorem from_any (w : World) (p : PM) (need : Nat) (hp : p.1.length ≤ 1000000) :
  Calls Tryz.prog 66 #[.agg #[.string (bytesL p.1),.int .i64 (p.2 : Nat)],.int .i64 (need : Nat)] w fun e w' => Ch No w w' ∧ e = .returned (.string (bytesL (fromM p need))) := by
 refine calls_of_fnT mixed Tryz.func66 (s := s66) ?_
 rw [t66]
 refine nw fun w1 h1 z1 n1 => ?_
 unfold fromM
 refine ld_int (n1.cell 1) (br_both (fun e => ?_) fun e => ?_)
 ·have e := lt_t e
  rw [if_pos (by omega)]
  refine ld_str (n1.cell 0) ?_
  rw [tb_app]
  refine nd_sz (by rw [tb_size,tb_size]; simp; omega) (nd_sz (by rw [tb_size,tb_size]; simp; omega) ⟨h1,?_⟩)
  rw [tb_app]
  rfl
 ·have e := lt_f e
  rw [if_neg (by omega)]
  exact ld_str (n1.cell 0) ⟨h1,rfl⟩
theorem infix_any (w : World) (op : Txt) :
  Calls Tryz.prog 64 #[.string (bytesL op)] w fun e w' => w' = w ∧ e = .returned (.tuple #[.int .i64 (opLv op : Nat),.int .i64 (opL op : Nat),.int .i64 (opR op : Nat)]) := by
 refine calls_of_fnT mixed Tryz.func64 (s := s64) ?_
 rw [t64]
 simp only [tb_list]
 have out : ∀ k : Nat,opLv op = k → (w = w ∧ Ending.returned (.tuple #[.int .i64 (k : Nat),.int .i64 ((if k = 4 then 5 else k : Nat) : Nat),.int .i64 ((if k = 0 then 0 else k + 1 : Nat) : Nat)]) = .returned (.tuple #[.int .i64 (opLv op : Nat),.int .i64 (opL op : Nat),.int .i64 (opR op : Nat)])) := fun k hk => ⟨rfl,by unfold opL opR; rw [hk]⟩
 refine br_both (fun e => out 1 ?_) fun e1 => ?_
 ·unfold opLv; rw [if_pos (show op = tOr from beq_iff_eq.1 e)]
 have e1 : ¬ op = tOr := beq_eq_false_iff_ne.1 e1
 refine br_both (fun e => out 2 ?_) fun e2 => ?_
 ·unfold opLv; rw [if_neg e1,if_pos (show op = tAnd from beq_iff_eq.1 e)]
 have e2 : ¬ op = tAnd := beq_eq_false_iff_ne.1 e2
 have hl : opLv op = lvlS op := by unfold opLv; rw [if_neg e1,if_neg e2]
 refine cut_i mixed s64_1 (fun (v : Bool × Unit) w' => w' = w ∧ (v.1 = true ↔ op = sEq ∨ op = sNe ∨ op = sLt ∨ op = sLe ∨ op = sGt ∨ op = sGe)) (by kernel_rfl) (fun g => ?_) ?_
 ·rw [t64_1]
  simp only [tb_list]
  refine br_both (fun e => ⟨rfl,(true,()),rfl,rfl,by simp [show op = sEq from beq_iff_eq.1 e]⟩) fun e1 => ?_
  refine br_both (fun e => ⟨rfl,(true,()),rfl,rfl,by simp [show op = sNe from beq_iff_eq.1 e]⟩) fun e2 => ?_
  refine br_both (fun e => ⟨rfl,(true,()),rfl,rfl,by simp [show op = sLt from beq_iff_eq.1 e]⟩) fun e3 => ?_
  refine br_both (fun e => ⟨rfl,(true,()),rfl,rfl,by simp [show op = sLe from beq_iff_eq.1 e]⟩) fun e4 => ?_
  refine br_both (fun e => ⟨rfl,(true,()),rfl,rfl,by simp [show op = sGt from beq_iff_eq.1 e]⟩) fun e5 => ?_
  refine ⟨rfl,(_,()),rfl,rfl,?_⟩
  have e1 : ¬ op = sEq := beq_eq_false_iff_ne.1 e1
  have e2 : ¬ op = sNe := beq_eq_false_iff_ne.1 e2
  have e3 : ¬ op = sLt := beq_eq_false_iff_ne.1 e3
  have e4 : ¬ op = sLe := beq_eq_false_iff_ne.1 e4
  have e5 : ¬ op = sGt := beq_eq_false_iff_ne.1 e5
  simp only [e1,e2,e3,e4,e5,false_or]
  exact beq_iff_eq
 rintro ⟨u2,⟨⟩⟩ g w3 ⟨rfl,hu2⟩
 dsimp only at hu2
 have off : ∀ {u : Bool} {p : Prop},(u = true ↔ p) → u = false → ¬ p := fun h e hp => by have := h.2 hp; rw [e] at this; cases this
 refine br_both (fun e => out 4 ?_) fun e3 => ?_
 ·rw [hl]; unfold lvlS; rw [if_pos (hu2.1 e)]
 have e3 := off hu2 e3
 refine cut_i mixed s64_3 (fun (v : Bool × Unit) w' => w' = w3 ∧ (v.1 = true ↔ op = sPlus ∨ op = sMinus)) (by kernel_rfl) (fun g => ?_) ?_
 ·rw [t64_3]
  simp only [tb_list]
  refine br_both (fun e => ⟨rfl,(true,()),rfl,rfl,by simp [show op = sPlus from beq_iff_eq.1 e]⟩) fun e1 => ⟨rfl,(_,()),rfl,rfl,?_⟩
  have e1 : ¬ op = sPlus := beq_eq_false_iff_ne.1 e1
  simp only [e1,false_or]
  exact beq_iff_eq
 rintro ⟨u3,⟨⟩⟩ g w4 ⟨rfl,hu3⟩
 dsimp only at hu3
 refine br_both (fun e => out 5 ?_) fun e4 => ?_
 ·rw [hl]; unfold lvlS; rw [if_neg e3,if_pos (hu3.1 e)]
 have e4 := off hu3 e4
 refine br_both (fun e => out 6 ?_) fun e5 => ?_
 ·rw [hl]; unfold lvlS; rw [if_neg e3,if_neg e4,if_pos (.inl (show op = sMul from beq_iff_eq.1 e))]
 refine br_both (fun e => out 6 ?_) fun e6 => ?_
 ·rw [hl]; unfold lvlS; rw [if_neg e3,if_neg e4,if_pos (.inr (.inl (show op = sDiv from beq_iff_eq.1 e)))]
 refine br_both (fun e => out 6 ?_) fun e7 => out 0 ?_
 ·rw [hl]; unfold lvlS; rw [if_neg e3,if_neg e4,if_pos (.inr (.inr (show op = sMod from beq_iff_eq.1 e)))]
 ·have e5 : ¬ op = sMul := beq_eq_false_iff_ne.1 e5
  have e6 : ¬ op = sDiv := beq_eq_false_iff_ne.1 e6
  have e7 : ¬ op = sMod := beq_eq_false_iff_ne.1 e7
  rw [hl]; unfold lvlS; rw [if_neg e3,if_neg e4,if_neg (fun h => h.elim e5 (fun h => h.elim e6 e7))]
/-! ### Pieces that stand somewhere -/
def cellsP (p : PM) : List Value := [.string (bytesL p.1),.int .i64 (p.2 : Nat)]
theorem cellsP_len (l : List PM) : (l.flatMap cellsP).length = 2 * l.length := by
 induction l with
 | nil => rfl
 | cons a r ih => rw [List.flatMap_cons,List.length_append,ih,List.length_cons]; show 2 + _ = _; omega
theorem cellsP_get : ∀ {l : List PM} {i : Nat} {p : PM} {j : Nat},l[i]? = some p → j < 2 → (l.flatMap cellsP)[2 * i + j]? = (cellsP p)[j]?
 | a :: r,0,p,j,h,hj => by
  obtain rfl : a = p := by simpa using h
  rw [List.flatMap_cons,List.getElem?_append_left (by show _ < 2; omega),Nat.mul_zero,Nat.zero_add]
 | a :: r,i + 1,p,j,h,hj => by
  rw [List.flatMap_cons,List.getElem?_append_right (by show 2 ≤ _; omega),show 2 * (i + 1) + j - (cellsP a).length = 2 * i + j by show 2 * (i + 1) + j - 2 = _; omega]
  exact cellsP_get (by simpa using h) hj
def AtP (w : World) (p : Option Addr) (n : Nat) (a : List PM) : Prop := a.length = n ∧ (0 < n → ∃ g o,p = some ⟨g,o,none⟩ ∧ ∀ (j : Nat) (u : Value),(a.flatMap cellsP)[j]? = some u → w.cell? ⟨g,o + j,none⟩ = some u)
theorem AtP.ch {S : Nat → Prop} {w w' : World} {p : Option Addr} {n : Nat} {a : List PM} (h : AtP w p n a) (hc : Ch S w w') (hS : ∀ g o,p = some ⟨g,o,none⟩ → ¬ S g) : AtP w' p n a := ⟨h.1,fun hn => by
 obtain ⟨g,o,e,hj⟩ := h.2 hn
 exact ⟨g,o,e,fun j u hu => hc.cellv (hj j u hu) (hS g o e)⟩⟩
theorem AtP.no {w w' : World} {p : Option Addr} {n : Nat} {a : List PM} (h : AtP w p n a) (hc : Ch No w w') : AtP w' p n a := h.ch hc fun _ _ _ h => h
theorem AtP.get {w : World} {p : Option Addr} {n i : Nat} {a : List PM} {x : PM} (h : AtP w p n a) (hx : a[i]? = some x) : ∃ g o,p = some ⟨g,o,none⟩ ∧ w.cell? ⟨g,o + i * 2,none⟩ = some (.string (bytesL x.1)) ∧ w.cell? ⟨g,o + (i * 2 + 1),none⟩ = some (.int .i64 (x.2 : Nat)) := by
 have hi := (List.getElem?_eq_some_iff.1 hx).1
 obtain ⟨g,o,e,hj⟩ := h.2 (by rw [← h.1]; omega)
 refine ⟨g,o,e,hj _ _ ?_,hj _ _ ?_⟩
 ·have := cellsP_get (j := 0) hx (by omega)
  rw [Nat.add_zero,Nat.mul_comm] at this
  exact this
 ·have := cellsP_get (j := 1) hx (by omega)
  rw [Nat.mul_comm 2 i] at this
  exact this
def sumP (a : List PM) : Nat := (a.map fun p => p.1.length + 4).sum
theorem sumP_cons (p : PM) (a : List PM) : sumP (p :: a) = p.1.length + 4 + sumP a := rfl
theorem sumP_app (a b : List PM) : sumP (a ++ b) = sumP a + sumP b := by unfold sumP; rw [List.map_append,List.sum_append]
theorem sumP_mem {a : List PM} {i : Nat} {x : PM} (h : a[i]? = some x) : x.1.length + 4 ≤ sumP a := by
 induction a generalizing i with
 | nil => simp at h
 | cons p r ih =>
  rw [sumP_cons]
  cases i with
  | zero => obtain rfl : p = x := by simpa using h
            omega
  | succ i => have := ih (i := i) (by simpa using h); omega
theorem rowF_len : ∀ (f : Bool) (a : List PM),(rowF f a).length ≤ sumP a
 | _,[] => Nat.zero_le _
 | f,p :: a => by
  have := rowF_len false a
  rw [sumP_cons,rowF,List.length_append,List.length_append]
  split
  ·simp only [List.length_nil]; omega
  ·simp only [List.length_singleton]; omega
theorem rowF_split : ∀ (f : Bool) (a : List PM) (i : Nat) (x : PM),a[i]? = some x → rowF f (a.take (i + 1)) = rowF f (a.take i) ++ ((if (f && decide (i = 0)) = true then [] else [44]) ++ x.1)
 | f,p :: a,0,x,h => by
  obtain rfl : p = x := by simpa using h
  simp only [List.take_succ_cons,List.take_zero,rowF]
  cases f <;> simp
 | f,p :: a,i + 1,x,h => by
  have ih := rowF_split false a i x (by simpa using h)
  rw [List.take_succ_cons,List.take_succ_cons,rowF,rowF,ih]
  simp
theorem row_any (w : World) (p : Option Addr) (n c : Nat) (a : List PM) (h : AtP w p n a) (hs : sumP a ≤ 1000000) :
  Calls Tryz.prog 67 #[.slice p n c] w fun e w' => w' = w ∧ e = .returned (.string (bytesL (rowF true a))) := by
 refine calls_of_fnT mixed Tryz.func67 (s := s67) ?_
 rw [t67]
 have hn := h.1
 have hn4 : 4 * n ≤ sumP a := by
  rw [← hn]
  clear h hn hs
  induction a with
  | nil => exact Nat.zero_le _
  | cons p r ih => rw [sumP_cons,List.length_cons]; omega
 refine loop_i mixed m67_1 s67_1 (by kernel_rfl) (by kernel_rfl)
  (fun (v : ByteArray × Int × Unit) w' => w' = w ∧ ∃ i : Nat,v.2.1 = (i : Nat) ∧ i ≤ n ∧ v.1 = bytesL (rowF true (a.take i)))
  (fun (v : ByteArray × Int × Unit) _ => n - v.2.1.toNat) (bytesL [],0,()) rfl ⟨rfl,0,rfl,by omega,rfl⟩ ?_
 rintro ⟨_,_,⟨⟩⟩ g w2 ⟨rfl,i,rfl,hi,rfl⟩
 rw [t67_1]
 dsimp only
 have hle : (rowF true (a.take i)).length ≤ sumP a := by
  have h1 := rowF_len true (a.take i)
  have h2 : sumP (a.take i) ≤ sumP a := by
   have := sumP_app (a.take i) (a.drop i)
   rw [List.take_append_drop] at this
   omega
  omega
 refine br_both (fun e => ?_) fun e => ?_
 ·have e := lt_t e
  obtain ⟨x,hx⟩ : ∃ x,a[i]? = some x := ⟨_,List.getElem?_eq_getElem (by omega)⟩
  obtain ⟨gg,o,rfl,hc,-⟩ := h.get hx
  have hxs := sumP_mem hx
  have hsp := rowF_split true a i x hx
  refine br_both (fun e2 => ?_) fun e2 => ?_
  ·have e2 := gt_t e2
   rw [show (true && decide (i = 0)) = false by rw [decide_eq_false (by omega)]; rfl,if_neg (by decide)] at hsp
   rw [tb_app]
   refine nd_sz (by rw [tb_size,tb_size]; simp; omega) (ix_i (by omega) (by omega) ?_)
   rw [Int.toNat_natCast,addr_add]
   refine ld_str hc (nd_sz (by rw [tb_size,tb_size]; simp; omega) ?_)
   rw [tb_app,wrap_succ (by omega) (by omega)]
   refine ⟨(_,_,()),rfl,⟨rfl,i + 1,rfl,by omega,?_⟩,?_⟩
   ·rw [hsp,List.append_assoc]
   ·show n - ((i : Int) + 1).toNat < n - ((i : Nat) : Int).toNat
    omega
  ·have e2 := gt_f e2
   obtain rfl : i = 0 := by omega
   rw [show (true && decide ((0 : Nat) = 0)) = true by decide,if_pos rfl] at hsp
   refine ix_i (by omega) (by omega) ?_
   rw [Int.toNat_natCast,addr_add]
   refine ld_str hc (nd_sz (by rw [tb_size,tb_size]; omega) ?_)
   rw [tb_app,wrap_succ (by omega) (by omega)]
   refine ⟨(_,_,()),rfl,⟨rfl,1,rfl,by omega,?_⟩,?_⟩
   ·rw [hsp,List.nil_append]
   ·show n - (((0 : Nat) : Int) + 1).toNat < n - (((0 : Nat) : Nat) : Int).toNat
    omega
 ·have e := lt_f e
  obtain rfl : i = n := by omega
  refine ⟨rfl,(_,()),rfl,fun g => ⟨rfl,?_⟩⟩
  rw [List.take_of_length_le (by omega)]
theorem quo1_len (c : UInt8) : (quo1 c).length ≤ 4 := by
 unfold quo1 hex2
 split
 ·simp
 split
 ·simp
 split
 ·simp
 split <;> simp
theorem quos_len (l : Txt) : (l.flatMap quo1).length ≤ 4 * l.length := by
 induction l with
 | nil => simp
 | cons c r ih =>
  have := quo1_len c
  rw [List.flatMap_cons,List.length_append,List.length_cons]
  omega
theorem row_of_blk {w : World} {base g n : Nat} {bs : Txt} (hb : Blk w g (Lib.byteCells bs) tByte) (hlo : base ≤ g) (hn : bs.length = n) (hm : n ≤ 1000000) : RowB w base (some ⟨g,0,none⟩) n n bs :=
 ⟨by rw [Lib.byteCells_length,hn,Nat.mul_one],.inr ⟨g,n,(Lib.byteCells bs).toArray,rfl,hlo,hb,Nat.le_refl _,by unfold maxLen; omega,by simp [Lib.byteCells_length,hn],by
  show List.take (n * 1) (Lib.byteCells bs).toArray.toList = _
  rw [Nat.mul_one]
  exact List.take_of_length_le (by simp [Lib.byteCells_length,hn])⟩⟩
theorem hex_i {P : Program} {R : Ending → World → Prop} {Q : Exit → List (Tmp × Value) → World → Prop} {w : World} {i : Int} {f : Int → T} {m : Md} (n : Nat) (hi : i = n) (hn : n < 16) (h : wpT P R Q (f ((hexL n).toNat : Int)) m w) : wpT P R Q (.bidx (bytesL [48,49,50,51,52,53,54,55,56,57,97,98,99,100,101,102]) i f) m w := by
 subst hi
 obtain ⟨hlt,he⟩ := hexL_at n hn
 refine bi_i (by omega) (by rw [Int.toNat_natCast]; exact hlt) ?_
 have : (bytesL [48,49,50,51,52,53,54,55,56,57,97,98,99,100,101,102])[((n : Int)).toNat]'(by rw [Int.toNat_natCast]; exact hlt) = hexL n := he
 rw [this]
 exact h
theorem quoted3_any (w : World) (s : Txt) (hs : s.length ≤ 1000) :
  Calls Tryz.prog 68 #[.string (bytesL s)] w fun e w' => Ch No w w' ∧ e = .returned (.string (bytesL (quoM s))) := by
 refine calls_of_fnT mixed Tryz.func68 (s := s68) ?_
 rw [t68]
 have hsz : (bytesL s).size = s.length := tb_size s
 refine nw fun w1 h1 z1 (b1 : Blk w1 _ [.int .u8 34] tByte) => ?_
 have r1 : RowB w1 w.heap.size (some ⟨w.heap.size,0,none⟩) 1 1 [34] := row_of_blk b1 (Nat.le_refl _) rfl (by omega)
 have S0 : ∀ k,rowS (some ⟨w.heap.size,0,none⟩) 1 1 k → w.heap.size ≤ k := fun k hk => (Row.lt r1 hk).1
 refine loop_i mixed m68_2 s68_2 (by kernel_rfl) (by kernel_rfl)
  (fun (v : (Option Addr × Nat × Nat) × Int × Unit) w' => ∃ i : Nat,v.2.1 = (i : Nat) ∧ i ≤ s.length ∧ Ch No w w' ∧ RowB w' w.heap.size v.1.1 v.1.2.1 v.1.2.2 (34 :: (s.take i).flatMap quo1))
  (fun (v : (Option Addr × Nat × Nat) × Int × Unit) _ => s.length - v.2.1.toNat) ((some ⟨w.heap.size,0,none⟩,1,1),0,()) rfl ⟨0,rfl,by omega,h1,r1⟩ ?_
 rintro ⟨⟨q,n,c⟩,_,⟨⟩⟩ g w2 ⟨i,rfl,hi,h2,r2⟩
 rw [t68_2]
 dsimp only at r2 ⊢
 have hln := RowB.len r2
 have hql := quos_len (s.take i)
 rw [List.length_take] at hql
 rw [List.length_cons] at hln
 refine br_both (fun e => ?_) fun e => ?_
 ·have e := lt_t e
  rw [hsz] at e
  have hlt : i < s.length := by omega
  obtain ⟨ch,hch⟩ : ∃ ch,ch = s[i]'hlt := ⟨_,rfl⟩
  have htk : s.take (i + 1) = s.take i ++ [ch] := by rw [List.take_add_one,List.getElem?_eq_getElem hlt,hch]; rfl
  have stp : ∀ {R : Ending → World → Prop} {Q : Exit → List (Tmp × Value) → World → Prop} {K : Option Addr × Nat × Nat → T} (news : Txt) (w3 : World) (nn m : Nat),Ch No w2 w3 → Blk w3 nn (Lib.byteCells news) tByte → news.length = m → m ≤ 4 → (∀ q' c' w',Ch No w w' → RowB w' w.heap.size q' (n + m) c' (34 :: (s.take i).flatMap quo1 ++ news) → wpT Tryz.prog R Q (K (q',n + m,c')) .pl w') →
    wpT Tryz.prog R Q (.run (builtin .append #[tBytes,tBytes] tBytes #[false,false] #[.slice q n c,.slice (some ⟨nn,0,none⟩) m m]) (.one (.leaf .sl)) K) .pl w3 := fun news w3 nn m h3 b3 hm hm4 hk => by
   have hz2 := h2.size
   have hz3 := h3.size
   refine ap_b (r2.no h3) (by omega) b3 news rfl hm (by omega) fun q' c' w' g => hk q' c' w' ?_ g.own
   exact (h2.trans h3).then_ g.ch (fun k hk' hb => by have := (Row.lt (r2.no h3) hb).1; omega)
  have fin : ∀ (q' : Option Addr) (m c' : Nat) (w' : World),Ch No w w' → RowB w' w.heap.size q' m c' (34 :: (s.take i).flatMap quo1 ++ quo1 ch) →
    ∃ v : MVars m68_2,[((3 : Tmp),Value.slice q' m c'),(4,.int .i64 (IntKind.i64.wrap ((i : Int) + 1)))] = mvals m68_2 v ∧ ((∃ i : Nat,v.2.1 = (i : Nat) ∧ i ≤ s.length ∧ Ch No w w' ∧ RowB w' w.heap.size v.1.1 v.1.2.1 v.1.2.2 (34 :: (s.take i).flatMap quo1)) ∧ s.length - v.2.1.toNat < s.length - ((i : Nat) : Int).toNat) := fun q' m c' w' hc hr => by
   refine ⟨((q',m,c'),(i : Int) + 1,()),by rw [wrap_succ (by omega) (by omega)]; rfl,⟨i + 1,rfl,by omega,hc,?_⟩,?_⟩
   ·rw [htk,List.flatMap_append]
    simpa using hr
   ·show s.length - ((i : Int) + 1).toNat < s.length - ((i : Nat) : Int).toNat
    omega
  refine bi_i (by omega) (by rw [Int.toNat_natCast,hsz]; exact hlt) ?_
  rw [show (bytesL s)[((i : Nat) : Int).toNat]'(by rw [Int.toNat_natCast,hsz]; exact hlt) = ch from hch.symm]
  unfold quo1 at fin
  refine cut_i mixed s68_4 (fun (v : Bool × Unit) w' => w' = w2 ∧ (v.1 = true ↔ ch = 34 ∨ ch = 92)) (by kernel_rfl) (fun g => ?_) ?_
  ·rw [t68_4]
   refine br_both (fun e => ⟨rfl,(true,()),rfl,rfl,by simp [u8_of (d := 34) (eq_t e)]⟩) fun e1 => ⟨rfl,(_,()),rfl,rfl,?_⟩
   have e1 : ch ≠ 34 := by rintro rfl; simp at e1
   dsimp only
   rw [beq_iff_eq]
   exact ⟨fun h => .inr (u8_of (d := 92) h),fun h => by rw [h.resolve_left e1]; rfl⟩
  rintro ⟨u,⟨⟩⟩ g w3 ⟨rfl,hu⟩
  dsimp only at hu
  have off : ∀ {u : Bool} {p : Prop},(u = true ↔ p) → u = false → ¬ p := fun h e hp => by have := h.2 hp; rw [e] at this; cases this
  refine br_both (fun e => ?_) fun e => ?_
  ·rw [if_pos (hu.1 e)] at fin
   refine nw fun w4 h4 z4 (b4 : Blk w4 _ [.int .u8 92,.int .u8 (ch.toNat : Nat)] tByte) => ?_
   exact stp [92,ch] w4 _ 2 h4 b4 rfl (by omega) fun q' c' w' hc hr => fin q' _ c' w' hc hr
  have n1 := off hu e
  rw [if_neg n1] at fin
  refine br_both (fun e => ?_) fun e => ?_
  ·rw [if_pos (u8_of (d := 10) (eq_t e))] at fin
   refine nw fun w4 h4 z4 (b4 : Blk w4 _ [.int .u8 92,.int .u8 110] tByte) => ?_
   exact stp [92,110] w4 _ 2 h4 b4 rfl (by omega) fun q' c' w' hc hr => fin q' _ c' w' hc hr
  have n2 : ch ≠ 10 := by rintro rfl; simp at e
  rw [if_neg n2] at fin
  refine br_both (fun e => ?_) fun e => ?_
  ·rw [if_pos (u8_of (d := 9) (eq_t e))] at fin
   refine nw fun w4 h4 z4 (b4 : Blk w4 _ [.int .u8 92,.int .u8 116] tByte) => ?_
   exact stp [92,116] w4 _ 2 h4 b4 rfl (by omega) fun q' c' w' hc hr => fin q' _ c' w' hc hr
  have n3 : ch ≠ 9 := by rintro rfl; simp at e
  rw [if_neg n3] at fin
  refine cut_i mixed s68_12 (fun (v : Bool × Unit) w' => w' = w3 ∧ (v.1 = true ↔ (32 ≤ ch.toNat ∧ ch.toNat ≤ 126))) (by kernel_rfl) (fun g => ?_) ?_
  ·rw [t68_12]
   refine br_both (fun e => ⟨rfl,(_,()),rfl,rfl,?_⟩) fun e => ⟨rfl,(false,()),rfl,rfl,?_⟩
   ·have e := ge_t e
    show (decide (((ch.toNat : Nat) : Int) ≤ 126) = true ↔ _)
    rw [decide_eq_true_eq]
    omega
   ·have e := ge_f e
    exact ⟨(fun h => nomatch h),fun h => by omega⟩
  rintro ⟨u2,⟨⟩⟩ g w4 ⟨rfl,hu2⟩
  dsimp only at hu2
  refine br_both (fun e => ?_) fun e => ?_
  ·rw [if_pos (hu2.1 e)] at fin
   refine nw fun w5 h5 z5 (b5 : Blk w5 _ [.int .u8 (ch.toNat : Nat)] tByte) => ?_
   exact stp [ch] w5 _ 1 h5 b5 rfl (by omega) fun q' c' w' hc hr => fin q' _ c' w' hc hr
  ·rw [if_neg (off hu2 e)] at fin
   have hd := (Ch.refl No w4).drew
   have hlt8 := ch.toNat_lt
   have e1 : IntKind.u8.wrap (((ch.toNat : Nat) : Int).tdiv 16) = ((ch.toNat / 16 : Nat) : Int) := by
    rw [Int.tdiv_eq_ediv_of_nonneg (by omega),IntKind.wrap_u8']
    omega
   have e2 : ((ch.toNat : Nat) : Int).tmod 16 = ((ch.toNat % 16 : Nat) : Int) := by
    rw [Int.tmod_eq_emod_of_nonneg (by omega)]
    omega
   refine hd_i (fun _ => True) trivial (hex_i (ch.toNat / 16) e1 (by omega) (hex_i (ch.toNat % 16) e2 (by omega) (eff_i ?_)))
   have hz2 := h2.size
   refine nw fun w5 h5 z5 (b5 : Blk w5 _ [.int .u8 92,.int .u8 120,.int .u8 ((hexL (ch.toNat / 16)).toNat : Int),.int .u8 ((hexL (ch.toNat % 16)).toNat : Int)] tByte) => bk trivial (eff_i ?_)
   have h45 := hd.trans h5
   have hz5 := h45.size
   refine ap_b (r2.no h45) (by omega) b5 (hex2 ch) rfl rfl (by omega) fun q' c' w' g => bk trivial (un_h (fin q' _ c' w' ?_ g.own))
   exact (h2.trans h45).then_ g.ch (fun k hk' hb => by have := (Row.lt (r2.no h45) hb).1; omega)
 ·have e := lt_f e
  rw [hsz] at e
  obtain rfl : i = s.length := by omega
  refine ⟨rfl,((q,n,c),()),rfl,fun g => nw fun w3 h3 z3 (b3 : Blk w3 _ [.int .u8 34] tByte) => ?_⟩
  have hz2 := h2.size
  have hz3 := h3.size
  refine ap_b (r2.no h3) (by omega) b3 [34] rfl rfl (by omega) fun q' c' w4 g4 => cv_b (RowB.at g4.own) ⟨?_,?_⟩
  ·exact (h2.trans h3).then_ g4.ch (fun k hk' hb => by have := (Row.lt (r2.no h3) hb).1; omega)
  ·rw [List.take_of_length_le (by omega)]
   rfl
end Go.Proofs.YtmdmomccibpjbaaGreatDoor.E
namespace Go.Proofs.YtmdmomccibpjbaaGreatDoor.E
open Go Tr
open V (rest rest_cases restL sizeB pk_rest cx_i cp_i extract_list pk hexP)
set_option maxRecDepth 100000
set_option maxHeartbeats 4000000
/-! the tree of function 36 -/
abbrev fx36_5 (qa1 : Option Addr) (qn1 : Nat) (qc1 : Nat) (n1 : Nat) (n2 : Nat) (r4 : Int × Int × Int × Unit) : List (Tmp × Value) := [(1,.slice qa1 qn1 qc1),(2,.pointer (some ⟨n1,0,none⟩)),(4,.pointer (some ⟨n2,0,none⟩)),(5,.int .i64 r4.1),(6,.int .i64 r4.2.1),(7,.int .i64 r4.2.2.1)]
abbrev mx36_5 : List (Tmp × Comp) := [(17,.leaf .bool)]
def s36_5 : Script := .sym (.lit (.lit (.lit .nil))) (.lit (.lit (.lit .nil)))
theorem t36_5 (qa1 : Option Addr) (qn1 : Nat) (qc1 : Nat) (n1 : Nat) (n2 : Nat) (r4 : Int × Int × Int × Unit) (gg5 : Nat → Value) : pieceT Tryz.prog (at_ Tryz.f36 [1,1,0,0,0]) 143 (fx36_5 qa1 qn1 qc1 n1 n2 r4) gg5 (mx36_5.map (·.1)) [] [] s36_5 = .br (Decidable.decide (r4.fst > 0)) (.fin .normal [(17,.bool ((↑qn1 : Int) == 2))]) (.fin .normal [(17,.bool false)]) := by kernel_rfl
abbrev fx36_20 (qa1 : Option Addr) (qn1 : Nat) (qc1 : Nat) (n1 : Nat) (n2 : Nat) : List (Tmp × Value) := [(1,.slice qa1 qn1 qc1),(2,.pointer (some ⟨n1,0,none⟩)),(4,.pointer (some ⟨n2,0,none⟩))]
abbrev mx36_20 : List (Tmp × Comp) := [(42,.leaf .bool)]
def s36_20 : Script := .ld .str (.sym (.lit (.lit (.lit .nil))) (.lit (.lit (.lit .nil))))
theorem t36_20 (qa1 : Option Addr) (qn1 : Nat) (qc1 : Nat) (n1 : Nat) (n2 : Nat) (gg20 : Nat → Value) : pieceT Tryz.prog (at_ Tryz.f36 [1,1,0,0,1,1,0]) 143 (fx36_20 qa1 qn1 qc1 n1 n2) gg20 (mx36_20.map (·.1)) [] [] s36_20 = .load ⟨n1,0,none⟩ .str (fun s21 => .br (s21.toList == (bytesL [110,101,103]).toList) (.fin .normal [(42,.bool ((↑qn1 : Int) == 1))]) (.fin .normal [(42,.bool false)])) := by kernel_rfl
abbrev fx36_29 (qa1 : Option Addr) (qn1 : Nat) (qc1 : Nat) (n1 : Nat) (n2 : Nat) : List (Tmp × Value) := [(1,.slice qa1 qn1 qc1),(2,.pointer (some ⟨n1,0,none⟩)),(4,.pointer (some ⟨n2,0,none⟩))]
abbrev mx36_29 : List (Tmp × Comp) := [(57,.leaf .bool)]
def s36_29 : Script := .ld .str (.sym (.lit (.lit (.lit .nil))) (.lit (.lit (.lit .nil))))
theorem t36_29 (qa1 : Option Addr) (qn1 : Nat) (qc1 : Nat) (n1 : Nat) (n2 : Nat) (gg29 : Nat → Value) : pieceT Tryz.prog (at_ Tryz.f36 [1,1,0,0,1,1,1,1,0]) 143 (fx36_29 qa1 qn1 qc1 n1 n2) gg29 (mx36_29.map (·.1)) [] [] s36_29 = .load ⟨n1,0,none⟩ .str (fun s30 => .br (s30.toList == (bytesL [110,111,116]).toList) (.fin .normal [(57,.bool ((↑qn1 : Int) == 1))]) (.fin .normal [(57,.bool false)])) := by kernel_rfl
abbrev fx36_39 (qa1 : Option Addr) (qn1 : Nat) (qc1 : Nat) (n1 : Nat) (n2 : Nat) : List (Tmp × Value) := [(1,.slice qa1 qn1 qc1),(2,.pointer (some ⟨n1,0,none⟩)),(4,.pointer (some ⟨n2,0,none⟩))]
abbrev mx36_39 : List (Tmp × Comp) := [(72,.leaf .bool)]
def s36_39 : Script := .ld .str (.sym (.lit (.lit (.lit .nil))) (.lit (.lit (.lit .nil))))
theorem t36_39 (qa1 : Option Addr) (qn1 : Nat) (qc1 : Nat) (n1 : Nat) (n2 : Nat) (gg39 : Nat → Value) : pieceT Tryz.prog (at_ Tryz.f36 [1,1,0,0,1,1,1,1,1,1,0]) 143 (fx36_39 qa1 qn1 qc1 n1 n2) gg39 (mx36_39.map (·.1)) [] [] s36_39 = .load ⟨n1,0,none⟩ .str (fun s40 => .br (s40.toList == (bytesL [105,102]).toList) (.fin .normal [(72,.bool ((↑qn1 : Int) == 3))]) (.fin .normal [(72,.bool false)])) := by kernel_rfl
def s36 : Script := .ld .str (.cl (.tup [.leaf (.int .i64),.leaf (.int .i64),.leaf (.int .i64)]) (.ct 1 [1,2,4,5,6,7] mx36_5 (.sym (.hd0 (.hq 0 (.hq 1 (.ix (.hq 2 (.ld .str (.ld (.int .i64) (.hq 3 (.hq 5 (.hq 6 (.ld .str (.he 4 (.cl (.one (.leaf .str)) (.he 7 (.cl (.one (.leaf .str)) (.hq 8 (.ix (.ld .str (.ld (.int .i64) (.cl (.one (.leaf .str)) (.cl (.one (.leaf .str)) (.ld .str (.ld (.int .i64) .nil))))))))))))))))))))))) (.ct 0 [1,2,4] mx36_20 (.sym (.ix (.ld .str (.ld (.int .i64) (.cl (.one (.leaf .str)) (.nd (.ld .str (.ld (.int .i64) .nil))))))) (.ct 0 [1,2,4] mx36_29 (.sym (.ix (.ld .str (.ld (.int .i64) (.cl (.one (.leaf .str)) (.cl (.one (.leaf .str)) (.ld .str (.ld (.int .i64) .nil))))))) (.ct 0 [1,2,4] mx36_39 (.sym (.ix (.ld .str (.cl (.one (.leaf .str)) (.cl (.one (.leaf .str)) (.ix (.ld .str (.cl (.one (.leaf .str)) (.cl (.one (.leaf .str)) (.ix (.ld .str (.cl (.one (.leaf .str)) (.ld .str (.ld (.int .i64) .nil))))))))))))) (.ld .str (.sym (.cl (.one (.leaf .str)) (.nd (.nd (.ld .str (.ld (.int .i64) .nil))))) (.ld .str (.sym (.ld (.int .i64) (.cl (.one (.leaf .str)) (.ld .str (.ld (.int .i64) .nil)))) (.ld .str (.sym (.ld .str (.cl (.one (.leaf .str)) (.ld .str (.ld (.int .i64) .nil)))) (.sym (.ld .str (.ld .str (.ld (.int .i64) .nil))) (.hd0 (.hq 0 (.hq 1 (.ld .str (.hq 2 (.nd (.hq 3 (.he 4 (.cl (.one (.leaf .str)) (.hq 5 (.nd (.hq 6 (.nd (.hq 7 (.he 8 (.ld .str (.ld (.int .i64) .nil)))))))))))))))))))))))))))))))))
theorem t36 (qs0_0 : ByteArray) (qx0_1 : Int) (qx0_2 : Int) (qs0_3 : ByteArray) (qa1 : Option Addr) (qn1 : Nat) (qc1 : Nat) : fnT Tryz.prog Tryz.f36 #[.agg #[.string qs0_0,.int .i64 qx0_1,.int .i64 qx0_2,.string qs0_3],.slice qa1 qn1 qc1] s36 = .new (.cells #[.string qs0_0,.int .i64 qx0_1,.int .i64 qx0_2,.string qs0_3] 123 (0,0)) (fun n1 => .new (.cells #[.string (bytesL []),.int .i64 0] 125 (0,0)) (fun n2 => .load ⟨n1,0,none⟩ .str (fun s3 => .call 64 #[.string s3] (.tup [.leaf (.int .i64),.leaf (.int .i64),.leaf (.int .i64)]) (fun r4 => .cut (at_ Tryz.f36 [1,1,0,0,0]) 143 (fx36_5 qa1 qn1 qc1 n1 n2 r4) mx36_5 (fun u6 g6 => .br u6.1 (.hdrawn (.idx qa1 0 qn1 2 (fun a7 => .load a7 .str (fun s8 => .load (a7.add 1) (.int .i64) (fun x9 => .load ⟨n1,0,none⟩ .str (fun s10 => .eff (.call 66 #[.agg #[.string s8,.int .i64 x9],.int .i64 r4.2.1] (.one (.leaf .str)) (fun s11 => .back (.eff (.call 65 #[.string s11,.string s10] (.one (.leaf .str)) (fun s12 => .back (.undrawn (.idx qa1 1 qn1 2 (fun a13 => .load a13 .str (fun s14 => .load (a13.add 1) (.int .i64) (fun x15 => .call 66 #[.agg #[.string s14,.int .i64 x15],.int .i64 r4.2.2.1] (.one (.leaf .str)) (fun s16 => .call 65 #[.string s12,.string s16] (.one (.leaf .str)) (fun s17 => .store ⟨n2,0,none⟩ (.string s17) (.store ⟨n2,1,none⟩ (.int .i64 r4.1) (.load ⟨n2,0,none⟩ .str (fun s18 => .load ⟨n2,1,none⟩ (.int .i64) (fun x19 => .done (.returned (.agg #[.string s18,.int .i64 x19])))))))))))))))))))))))) (.cut (at_ Tryz.f36 [1,1,0,0,1,1,0]) 143 (fx36_20 qa1 qn1 qc1 n1 n2) mx36_20 (fun u22 g22 => .br u22.1 (.idx qa1 0 qn1 2 (fun a23 => .load a23 .str (fun s24 => .load (a23.add 1) (.int .i64) (fun x25 => .call 66 #[.agg #[.string s24,.int .i64 x25],.int .i64 7] (.one (.leaf .str)) (fun s26 => .need (Decidable.decide ((bytesL [45]).size + s26.size ≤ 9223372036854775807)) (.store ⟨n2,0,none⟩ (.string (bytesL [45] ++ s26)) (.store ⟨n2,1,none⟩ (.int .i64 7) (.load ⟨n2,0,none⟩ .str (fun s27 => .load ⟨n2,1,none⟩ (.int .i64) (fun x28 => .done (.returned (.agg #[.string s27,.int .i64 x28])))))))))))) (.cut (at_ Tryz.f36 [1,1,0,0,1,1,1,1,0]) 143 (fx36_29 qa1 qn1 qc1 n1 n2) mx36_29 (fun u31 g31 => .br u31.1 (.idx qa1 0 qn1 2 (fun a32 => .load a32 .str (fun s33 => .load (a32.add 1) (.int .i64) (fun x34 => .call 66 #[.agg #[.string s33,.int .i64 x34],.int .i64 3] (.one (.leaf .str)) (fun s35 => .call 65 #[.string (bytesL [110,111,116]),.string s35] (.one (.leaf .str)) (fun s36 => .store ⟨n2,0,none⟩ (.string s36) (.store ⟨n2,1,none⟩ (.int .i64 3) (.load ⟨n2,0,none⟩ .str (fun s37 => .load ⟨n2,1,none⟩ (.int .i64) (fun x38 => .done (.returned (.agg #[.string s37,.int .i64 x38])))))))))))) (.cut (at_ Tryz.f36 [1,1,0,0,1,1,1,1,1,1,0]) 143 (fx36_39 qa1 qn1 qc1 n1 n2) mx36_39 (fun u41 g41 => .br u41.1 (.idx qa1 0 qn1 2 (fun a42 => .load a42 .str (fun s43 => .call 65 #[.string (bytesL [105,102]),.string s43] (.one (.leaf .str)) (fun s44 => .call 65 #[.string s44,.string (bytesL [116,104,101,110])] (.one (.leaf .str)) (fun s45 => .idx qa1 1 qn1 2 (fun a46 => .load a46 .str (fun s47 => .call 65 #[.string s45,.string s47] (.one (.leaf .str)) (fun s48 => .call 65 #[.string s48,.string (bytesL [101,108,115,101])] (.one (.leaf .str)) (fun s49 => .idx qa1 2 qn1 2 (fun a50 => .load a50 .str (fun s51 => .call 65 #[.string s49,.string s51] (.one (.leaf .str)) (fun s52 => .store ⟨n2,0,none⟩ (.string s52) (.store ⟨n2,1,none⟩ (.int .i64 0) (.load ⟨n2,0,none⟩ .str (fun s53 => .load ⟨n2,1,none⟩ (.int .i64) (fun x54 => .done (.returned (.agg #[.string s53,.int .i64 x54])))))))))))))))))) (.load ⟨n1,0,none⟩ .str (fun s55 => .br (s55.toList == (bytesL [108,105,115,116]).toList) (.call 67 #[.slice qa1 qn1 qc1] (.one (.leaf .str)) (fun s56 => .need (Decidable.decide ((bytesL [91]).size + s56.size ≤ 9223372036854775807)) (.need (Decidable.decide ((bytesL [91] ++ s56).size + (bytesL [93]).size ≤ 9223372036854775807)) (.store ⟨n2,0,none⟩ (.string (bytesL [91] ++ s56 ++ bytesL [93])) (.store ⟨n2,1,none⟩ (.int .i64 8) (.load ⟨n2,0,none⟩ .str (fun s57 => .load ⟨n2,1,none⟩ (.int .i64) (fun x58 => .done (.returned (.agg #[.string s57,.int .i64 x58])))))))))) (.load ⟨n1,0,none⟩ .str (fun s59 => .br (s59.toList == (bytesL [110,117,109]).toList) (.load ⟨n1,2,none⟩ (.int .i64) (fun x60 => .call 31 #[.int .i64 x60,.int .i64 10] (.one (.leaf .str)) (fun s61 => .store ⟨n2,0,none⟩ (.string s61) (.store ⟨n2,1,none⟩ (.int .i64 8) (.load ⟨n2,0,none⟩ .str (fun s62 => .load ⟨n2,1,none⟩ (.int .i64) (fun x63 => .done (.returned (.agg #[.string s62,.int .i64 x63]))))))))) (.load ⟨n1,0,none⟩ .str (fun s64 => .br (s64.toList == (bytesL [116,101,120,116,33]).toList) (.load ⟨n1,3,none⟩ .str (fun s65 => .call 68 #[.string s65] (.one (.leaf .str)) (fun s66 => .store ⟨n2,0,none⟩ (.string s66) (.store ⟨n2,1,none⟩ (.int .i64 8) (.load ⟨n2,0,none⟩ .str (fun s67 => .load ⟨n2,1,none⟩ (.int .i64) (fun x68 => .done (.returned (.agg #[.string s67,.int .i64 x68]))))))))) (.br ((↑qn1 : Int) == 0) (.load ⟨n1,0,none⟩ .str (fun s69 => .store ⟨n2,0,none⟩ (.string s69) (.store ⟨n2,1,none⟩ (.int .i64 8) (.load ⟨n2,0,none⟩ .str (fun s70 => .load ⟨n2,1,none⟩ (.int .i64) (fun x71 => .done (.returned (.agg #[.string s70,.int .i64 x71])))))))) (.hdrawn (.load ⟨n1,0,none⟩ .str (fun s72 => .need (Decidable.decide (s72.size + (bytesL [40]).size ≤ 9223372036854775807)) (.eff (.call 67 #[.slice qa1 qn1 qc1] (.one (.leaf .str)) (fun s73 => .back (.need (Decidable.decide ((s72 ++ bytesL [40]).size + s73.size ≤ 9223372036854775807)) (.need (Decidable.decide ((s72 ++ bytesL [40] ++ s73).size + (bytesL [41]).size ≤ 9223372036854775807)) (.eff (.store ⟨n2,0,none⟩ (.string (s72 ++ bytesL [40] ++ s73 ++ bytesL [41])) (.store ⟨n2,1,none⟩ (.int .i64 8) (.back (.undrawn (.load ⟨n2,0,none⟩ .str (fun s74 => .load ⟨n2,1,none⟩ (.int .i64) (fun x75 => .done (.returned (.agg #[.string s74,.int .i64 x75])))))))))))))))))))))))))))))))))))) := by kernel_rfl
theorem from_len (p : PM) (k : Nat) : (fromM p k).length ≤ p.1.length + 2 := by
 unfold fromM
 split
 ·simp
 ·omega
theorem glued_len (a b : Txt) : (gluedB a b).length ≤ a.length + b.length + 1 := by
 unfold gluedB
 split
 ·simp; omega
 ·simp
/-- A piece is loaded. -/
theorem ixp_i {R : Ending → World → Prop} {Q : Exit → List (Tmp × Value) → World → Prop} {w : World} {p : Option Addr} {n i : Nat} {a : List PM} {x : PM} {K : ByteArray → Int → T} (h : AtP w p n a) (hx : a[i]? = some x) (hk : wpT Tryz.prog R Q (K (bytesL x.1) (x.2 : Nat)) .pl w) :
  wpT Tryz.prog R Q (.idx p (i : Nat) n 2 (fun ad => .load ad .str (fun s => .load (ad.add 1) (.int .i64) (fun y => K s y)))) .pl w := by
 have hi := (List.getElem?_eq_some_iff.1 hx).1
 have hn := h.1
 obtain ⟨g,o,rfl,h1,h2⟩ := h.get hx
 refine ix_i (by omega) (by omega) ?_
 rw [Int.toNat_natCast,addr_add,addr_add]
 exact ld_str h1 (ld_int (by rw [Nat.add_assoc]; exact h2) hk)
theorem ixs_i {R : Ending → World → Prop} {Q : Exit → List (Tmp × Value) → World → Prop} {w : World} {p : Option Addr} {n i : Nat} {a : List PM} {x : PM} {K : ByteArray → T} (h : AtP w p n a) (hx : a[i]? = some x) (hk : wpT Tryz.prog R Q (K (bytesL x.1)) .pl w) :
  wpT Tryz.prog R Q (.idx p (i : Nat) n 2 (fun ad => .load ad .str (fun s => K s))) .pl w := by
 have hi := (List.getElem?_eq_some_iff.1 hx).1
 have hn := h.1
 obtain ⟨g,o,rfl,h1,h2⟩ := h.get hx
 refine ix_i (by omega) (by omega) ?_
 rw [Int.toNat_natCast,addr_add]
 exact ld_str h1 hk
/-- The answer goes out. -/
theorem pc_out {R : Ending → World → Prop} {Q : Exit → List (Tmp × Value) → World → Prop} {w : World} {n2 : Nat} {y0 y1 : Value} {t : ByteArray} {k : Int} (hn : Blk w n2 [y0,y1] tPiece) (h : ∀ w',Ch (· = n2) w w' → R (.returned (.agg #[.string t,.int .i64 k])) w') :
  wpT Tryz.prog R Q (.store ⟨n2,0,none⟩ (.string t) (.store ⟨n2,1,none⟩ (.int .i64 k) (.load ⟨n2,0,none⟩ .str (fun s18 => .load ⟨n2,1,none⟩ (.int .i64) (fun x19 => .done (.returned (.agg #[.string s18,.int .i64 x19]))))))) .pl w := by
 refine st_blk hn (by simp) rfl fun w1 h1 z1 n1 => st_blk n1 (by simp) rfl fun w2 h2 z2 n2 => ?_
 exact ld_str (n2.cell 0) (ld_int (n2.cell 1) (h w2 (h1.trans h2)))
theorem getD_at {a : List PM} {i : Nat} (h : i < a.length) : a[i]? = some (a.getD i ([],0)) := by
 rw [List.getD_eq_getElem?_getD,List.getElem?_eq_getElem h]
 rfl
theorem piece_any (w : World) (x : SM) (p : Option Addr) (n c : Nat) (a : List PM) (h : AtP w p n a) (hs : sumP a ≤ 500000) (hop : x.op.length ≤ 100) (ht : x.text.length ≤ 1000) (hnum : Rng x.num) (hT : Tabs w) :
  Calls Tryz.prog 36 #[.agg #[.string (bytesL x.op),.int .i64 (x.n : Nat),.int .i64 x.num,.string (bytesL x.text)],.slice p n c] w fun e w' => Ch No w w' ∧ e = .returned (.agg #[.string (bytesL (pieceM x a).1),.int .i64 ((pieceM x a).2 : Nat)]) := by
 refine calls_of_fnT mixed Tryz.func36 (s := s36) ?_
 rw [t36]
 generalize hP : pieceM x a = P
 have hn := h.1
 refine nw fun w1 h1 z1 n1 => nw fun w2 h2 z2 n2 => ?_
 have hne : w.heap.size ≠ w1.heap.size := by omega
 have m1 := n1.ch h2 (fun h => h)
 have hlt2 := n2.lt
 have h12 := h1.trans h2
 generalize hk1 : w.heap.size = k1 at *
 generalize hk2 : w1.heap.size = k2 at *
 refine ld_str (m1.cell 0) (cl_i (infix_any w2 x.op) ?_)
 rintro e w3 ⟨rfl,rfl⟩
 refine ⟨((opLv x.op : Int),(opL x.op : Int),(opR x.op : Int),()),rfl,?_⟩
 have A3 := h.no h12
 have out : ∀ (w' : World) (t : Txt) (k : Nat),Ch No w3 w' → ∀ w'',Ch (· = k2) w' w'' → (t,k) = P → Ch No w w'' ∧ Ending.returned (.agg #[.string (bytesL t),.int .i64 (k : Nat)]) = .returned (.agg #[.string (bytesL P.1),.int .i64 (P.2 : Nat)]) := fun w' t k hc w'' hc2 he => by
  rw [← he]
  exact ⟨(h12.trans hc).then_ hc2 (fun k hk (e : k = k2) => by omega),rfl⟩
 have off : ∀ {u : Bool} {p : Prop},(u = true ↔ p) → u = false → ¬ p := fun h e hp => by have := h.2 hp; rw [e] at this; cases this
 have sz : ∀ i,i < a.length → (a.getD i ([],0)).1.length + 4 ≤ sumP a := fun i hi => sumP_mem (getD_at hi)
 have s2 : 2 ≤ a.length → (a.getD 0 ([],0)).1.length + (a.getD 1 ([],0)).1.length + 8 ≤ sumP a := fun hl => by
  match a,hl with
  | u :: v :: r,_ =>
   rw [sumP_cons,sumP_cons]
   simp only [List.getD_cons_zero,List.getD_cons_succ]
   omega
 have s3 : 3 ≤ a.length → (a.getD 0 ([],0)).1.length + (a.getD 1 ([],0)).1.length + (a.getD 2 ([],0)).1.length + 12 ≤ sumP a := fun hl => by
  match a,hl with
  | u :: v :: r :: q,_ =>
   rw [sumP_cons,sumP_cons,sumP_cons]
   simp only [List.getD_cons_zero,List.getD_cons_succ]
   omega
 refine cut_i mixed s36_5 (fun (v : Bool × Unit) w' => w' = w3 ∧ (v.1 = true ↔ (0 < opLv x.op ∧ a.length = 2))) (by kernel_rfl) (fun g => ?_) ?_
 ·rw [t36_5]
  refine br_both (fun e => ⟨rfl,(_,()),rfl,rfl,?_⟩) fun e => ⟨rfl,(false,()),rfl,rfl,?_⟩
  ·have e := gt_t e
   show (((n : Int) == 2) = true ↔ _)
   rw [beq_iff_eq]
   omega
  ·have e := gt_f e
   exact ⟨(fun h => nomatch h),fun h => by have := h.1; omega⟩
 rintro ⟨u,⟨⟩⟩ g w4 ⟨rfl,hu⟩
 dsimp only at hu
 unfold pieceM at hP
 refine br_both (fun e => ?_) fun e => ?_
 ·have hc := hu.1 e
  rw [if_pos hc] at hP
  have x0 := getD_at (a := a) (i := 0) (by omega)
  have x1 := getD_at (a := a) (i := 1) (by omega)
  have hs2 := s2 (by omega)
  have hd := (Ch.refl No w4).drew
  obtain ⟨g0,o0,rfl,c0,c1⟩ := A3.get x0
  refine hd_i (fun w' => Ch No w4 w') hd (ix_i (by omega) (by omega) ?_)
  rw [show (Int.toNat 0 * 2) = 0 by rfl,addr_add,addr_add]
  refine lh_str (fun w' hw => hw.cellv c0 (fun h => h)) (lh_int (x := ((a.getD 0 ([],0)).2 : Nat)) (fun w' hw => hw.cellv (by rw [show o0 + 0 + 1 = o0 + (0 * 2 + 1) by omega]; exact c1) (fun h => h)) (lh_str (fun w' hw => hw.cellv (m1.cell 0) (fun h => h)) (eff_i ?_)))
  refine cl_i (from_any w4.drew (a.getD 0 ([],0)) (opL x.op) (by omega)) ?_
  rintro e w5 ⟨h5,rfl⟩
  have f0 := from_len (a.getD 0 ([],0)) (opL x.op)
  have f1 := from_len (a.getD 1 ([],0)) (opR x.op)
  refine ⟨_,rfl,bk (hd.trans h5) (eff_i (cl_i (glued_any w5 _ x.op (by omega) (by omega)) ?_))⟩
  rintro e w6 ⟨rfl,rfl⟩
  have l0 := glued_len (fromM (a.getD 0 ([],0)) (opL x.op)) x.op
  refine ⟨_,rfl,bk (hd.trans h5) (un_h ?_)⟩
  have H6 := hd.trans h5
  refine ixp_i (i := 1) (A3.no H6) x1 (cl_i (from_any w6 (a.getD 1 ([],0)) (opR x.op) (by omega)) ?_)
  rintro e w7 ⟨h7,rfl⟩
  refine ⟨_,rfl,cl_i (glued_any w7 _ _ (by omega) (by omega)) ?_⟩
  rintro e w8 ⟨rfl,rfl⟩
  exact ⟨_,rfl,pc_out ((n2.ch H6 (fun h => h)).ch h7 (fun h => h)) fun w' hw => out w8 _ _ (H6.trans h7) w' hw hP⟩
 have n1' := off hu e
 rw [if_neg n1'] at hP
 refine cut_i mixed s36_20 (fun (v : Bool × Unit) w' => w' = w4 ∧ (v.1 = true ↔ (x.op = nNeg ∧ a.length = 1))) (by kernel_rfl) (fun g => ?_) ?_
 ·rw [t36_20]
  refine ld_str (m1.cell 0) ?_
  simp only [tb_list]
  refine br_both (fun e => ⟨rfl,(_,()),rfl,rfl,?_⟩) fun e => ⟨rfl,(false,()),rfl,rfl,?_⟩
  ·have e : x.op = nNeg := beq_iff_eq.1 e
   show (((n : Int) == 1) = true ↔ _)
   rw [beq_iff_eq]
   exact ⟨fun h => ⟨e,by omega⟩,fun h => by have := h.2; omega⟩
  ·have e : ¬ x.op = nNeg := beq_eq_false_iff_ne.1 e
   exact ⟨(fun h => nomatch h),fun h => absurd h.1 e⟩
 rintro ⟨u2,⟨⟩⟩ g w5 ⟨rfl,hu2⟩
 dsimp only at hu2
 refine br_both (fun e => ?_) fun e => ?_
 ·have hc := hu2.1 e
  rw [if_pos hc] at hP
  have x0 := getD_at (a := a) (i := 0) (by omega)
  have hs1 := sz 0 (by omega)
  refine ixp_i (i := 0) A3 x0 (cl_i (from_any w5 (a.getD 0 ([],0)) 7 (by omega)) ?_)
  rintro e w6 ⟨h6,rfl⟩
  have f0 := from_len (a.getD 0 ([],0)) 7
  refine ⟨_,rfl,nd_sz (by rw [tb_size,tb_size]; simp only [List.length_cons,List.length_nil]; omega) ?_⟩
  rw [tb_app]
  exact pc_out (n2.ch h6 (fun h => h)) fun w' hw => out w6 _ 7 h6 w' hw hP
 have n2' := off hu2 e
 rw [if_neg n2'] at hP
 refine cut_i mixed s36_29 (fun (v : Bool × Unit) w' => w' = w5 ∧ (v.1 = true ↔ (x.op = tNot ∧ a.length = 1))) (by kernel_rfl) (fun g => ?_) ?_
 ·rw [t36_29]
  refine ld_str (m1.cell 0) ?_
  simp only [tb_list]
  refine br_both (fun e => ⟨rfl,(_,()),rfl,rfl,?_⟩) fun e => ⟨rfl,(false,()),rfl,rfl,?_⟩
  ·have e : x.op = tNot := beq_iff_eq.1 e
   show (((n : Int) == 1) = true ↔ _)
   rw [beq_iff_eq]
   exact ⟨fun h => ⟨e,by omega⟩,fun h => by have := h.2; omega⟩
  ·have e : ¬ x.op = tNot := beq_eq_false_iff_ne.1 e
   exact ⟨(fun h => nomatch h),fun h => absurd h.1 e⟩
 rintro ⟨u3,⟨⟩⟩ g w6 ⟨rfl,hu3⟩
 dsimp only at hu3
 refine br_both (fun e => ?_) fun e => ?_
 ·have hc := hu3.1 e
  rw [if_pos hc] at hP
  have x0 := getD_at (a := a) (i := 0) (by omega)
  have hs1 := sz 0 (by omega)
  refine ixp_i (i := 0) A3 x0 (cl_i (from_any w6 (a.getD 0 ([],0)) 3 (by omega)) ?_)
  rintro e w7 ⟨h7,rfl⟩
  have f0 := from_len (a.getD 0 ([],0)) 3
  refine ⟨_,rfl,cl_i (glued_any w7 tNot _ (by decide) (by omega)) ?_⟩
  rintro e w8 ⟨rfl,rfl⟩
  exact ⟨_,rfl,pc_out (n2.ch h7 (fun h => h)) fun w' hw => out w8 _ 3 h7 w' hw hP⟩
 have n3' := off hu3 e
 rw [if_neg n3'] at hP
 refine cut_i mixed s36_39 (fun (v : Bool × Unit) w' => w' = w6 ∧ (v.1 = true ↔ (x.op = tIf ∧ a.length = 3))) (by kernel_rfl) (fun g => ?_) ?_
 ·rw [t36_39]
  refine ld_str (m1.cell 0) ?_
  simp only [tb_list]
  refine br_both (fun e => ⟨rfl,(_,()),rfl,rfl,?_⟩) fun e => ⟨rfl,(false,()),rfl,rfl,?_⟩
  ·have e : x.op = tIf := beq_iff_eq.1 e
   show (((n : Int) == 3) = true ↔ _)
   rw [beq_iff_eq]
   exact ⟨fun h => ⟨e,by omega⟩,fun h => by have := h.2; omega⟩
  ·have e : ¬ x.op = tIf := beq_eq_false_iff_ne.1 e
   exact ⟨(fun h => nomatch h),fun h => absurd h.1 e⟩
 rintro ⟨u4,⟨⟩⟩ g w7 ⟨rfl,hu4⟩
 dsimp only at hu4
 refine br_both (fun e => ?_) fun e => ?_
 ·have hc := hu4.1 e
  rw [if_pos hc] at hP
  have x0 := getD_at (a := a) (i := 0) (by omega)
  have x1 := getD_at (a := a) (i := 1) (by omega)
  have x2 := getD_at (a := a) (i := 2) (by omega)
  have hs3 := s3 (by omega)
  have L1 : tIf.length = 2 ∧ tThen.length = 4 ∧ tElse.length = 4 := ⟨rfl,rfl,rfl⟩
  refine ixs_i (i := 0) A3 x0 (cl_i (glued_any w7 tIf _ (by decide) (by omega)) ?_)
  rintro e w8 ⟨rfl,rfl⟩
  have g1 := glued_len tIf (a.getD 0 ([],0)).1
  refine ⟨_,rfl,cl_i (glued_any w8 _ tThen (by omega) (by decide)) ?_⟩
  rintro e w9 ⟨rfl,rfl⟩
  have g2 := glued_len (gluedB tIf (a.getD 0 ([],0)).1) tThen
  refine ⟨_,rfl,ixs_i (i := 1) A3 x1 (cl_i (glued_any w9 _ _ (by omega) (by omega)) ?_)⟩
  rintro e w10 ⟨rfl,rfl⟩
  have g3 := glued_len (gluedB (gluedB tIf (a.getD 0 ([],0)).1) tThen) (a.getD 1 ([],0)).1
  refine ⟨_,rfl,cl_i (glued_any w10 _ tElse (by omega) (by decide)) ?_⟩
  rintro e w11 ⟨rfl,rfl⟩
  have g4 := glued_len (gluedB (gluedB (gluedB tIf (a.getD 0 ([],0)).1) tThen) (a.getD 1 ([],0)).1) tElse
  refine ⟨_,rfl,ixs_i (i := 2) A3 x2 (cl_i (glued_any w11 _ _ (by omega) (by omega)) ?_)⟩
  rintro e w12 ⟨rfl,rfl⟩
  exact ⟨_,rfl,pc_out n2 fun w' hw => out w12 _ 0 (Ch.refl _ _) w' hw hP⟩
 have n4' := off hu4 e
 rw [if_neg n4'] at hP
 have hrow := rowF_len true a
 refine ld_str (m1.cell 0) ?_
 simp only [tb_list]
 refine br_both (fun e => ?_) fun e => ?_
 ·have e : x.op = nList := beq_iff_eq.1 e
  rw [if_pos e] at hP
  refine cl_i (row_any w7 p n c a A3 (by omega)) ?_
  rintro e w8 ⟨rfl,rfl⟩
  refine ⟨_,rfl,nd_sz (by rw [tb_size,tb_size]; simp only [List.length_cons,List.length_nil]; omega) ?_⟩
  rw [tb_app]
  refine nd_sz (by rw [tb_size,tb_size]; simp only [List.length_cons,List.length_nil,List.length_append]; omega) ?_
  rw [tb_app]
  exact pc_out n2 fun w' hw => out w8 _ 8 (Ch.refl _ _) w' hw hP
 have n5' : ¬ x.op = nList := beq_eq_false_iff_ne.1 e
 rw [if_neg n5'] at hP
 refine ld_str (m1.cell 0) ?_
 simp only [tb_list]
 refine br_both (fun e => ?_) fun e => ?_
 ·have e : x.op = nNum := beq_iff_eq.1 e
  rw [if_pos e] at hP
  refine ld_int (m1.cell 2) (cl_i (format_any x.num hnum w7 (hT.no h12)) ?_)
  rintro e w8 ⟨rfl,h8⟩
  exact ⟨bytesL (Lib.itoa x.num),rfl,pc_out (n2.ch h8 (fun h => h)) fun w' hw => out w8 _ 8 h8 w' hw hP⟩
 have n6' : ¬ x.op = nNum := beq_eq_false_iff_ne.1 e
 rw [if_neg n6'] at hP
 refine ld_str (m1.cell 0) ?_
 simp only [tb_list]
 refine br_both (fun e => ?_) fun e => ?_
 ·have e : x.op = nText := beq_iff_eq.1 e
  rw [if_pos e] at hP
  refine ld_str (m1.cell 3) (cl_i (quoted3_any w7 x.text ht) ?_)
  rintro e w8 ⟨h8,rfl⟩
  exact ⟨_,rfl,pc_out (n2.ch h8 (fun h => h)) fun w' hw => out w8 _ 8 h8 w' hw hP⟩
 have n7' : ¬ x.op = nText := beq_eq_false_iff_ne.1 e
 rw [if_neg n7'] at hP
 refine br_both (fun e => ?_) fun e => ?_
 ·have e := eq_t e
  rw [if_pos (by omega)] at hP
  exact ld_str (m1.cell 0) (pc_out n2 fun w' hw => out w7 _ 8 (Ch.refl _ _) w' hw hP)
 ·have e := eq_f e
  rw [if_neg (by omega)] at hP
  have hd := (Ch.refl No w7).drew
  refine hd_i (fun w' => Ch (· = k2) w7 w') hd.no (lh_str (fun w' hw => hw.cellv (m1.cell 0) (fun e : k1 = k2 => hne e)) (nd_sz (by rw [tb_size,tb_size]; simp only [List.length_cons,List.length_nil]; omega) (eff_i ?_)))
  refine cl_i (row_any w7.drew p n c a (A3.no hd) (by omega)) ?_
  rintro e w8 ⟨rfl,rfl⟩
  refine ⟨_,rfl,bk hd.no ?_⟩
  rw [tb_app]
  refine nd_i (decide_eq_true (by rw [tb_size,tb_size]; simp only [List.length_cons,List.length_nil,List.length_append]; omega)) ?_
  rw [tb_app]
  refine nd_i (decide_eq_true (by rw [tb_size,tb_size]; simp only [List.length_cons,List.length_nil,List.length_append]; omega)) (eff_i ?_)
  rw [tb_app]
  have n2d := n2.ch hd (fun h => h)
  refine st_blk n2d (by simp) rfl fun w9 h9 z9 n9 => st_blk n9 (by simp) rfl fun w10 h10 z10 n10 => bk (hd.no.trans (h9.trans h10)) (un_h ?_)
  refine ld_str (n10.cell 0) (ld_int (n10.cell 1) ?_)
  have := out w7.drew (x.op ++ 40 :: (rowF true a ++ [41])) 8 hd w10 (h9.trans h10) hP
  rw [show x.op ++ [40] ++ rowF true a ++ [41] = x.op ++ 40 :: (rowF true a ++ [41]) by simp]
  exact this
end Go.Proofs.YtmdmomccibpjbaaGreatDoor.E
