/- The document's reader: its functions of words and bytes. The document's reader: numbers, where a text in quotes ends. The document's reader: what a text in quotes means (plain law: the same as the value's reader). The document's reader: what a text in quotes means is what the value's reader reads. The document's reader: a text in quotes (plain law). The document's reader: the walk of what a text in quotes means. -/
import Derived.Test.YtmdmomccibpjbaaGreatDoorVne
import Derived.Test.YtmdmomccibpjbaaGreatDoorCnb
import Derived.Test.YtmdmomccibpjbaaGreatDoorPwe
namespace Go.Proofs.YtmdmomccibpjbaaGreatDoor.E
open Go Tr
open V (rest rest_cases restL sizeB pk_rest cx_i cp_i extract_list)
set_option maxRecDepth 100000
set_option maxHeartbeats 1000000
/-! the tree of function 23 -/
abbrev fx23_1 (qs0 : ByteArray) : List (Tmp × Value) := [(3,.string qs0)]
abbrev mx23_1 : List (Tmp × Comp) := [(4,.leaf .bool)]
def s23_1 : Script := .sym .nil (.sym .nil (.sym .nil (.sym .nil (.sym .nil (.sym .nil .nil)))))
theorem t23_1 (qs0 : ByteArray) (gg1 : Nat → Value) : pieceT Tryz.prog (at_ Tryz.f23 [1,0,1,0,0]) 21 (fx23_1 qs0) gg1 (mx23_1.map (·.1)) [] [] s23_1 = .br (qs0.toList == (bytesL [108,101,110]).toList) (.fin .normal [(4,.bool true)]) (.br (qs0.toList == (bytesL [107,105,110,100]).toList) (.fin .normal [(4,.bool true)]) (.br (qs0.toList == (bytesL [105,110,116]).toList) (.fin .normal [(4,.bool true)]) (.br (qs0.toList == (bytesL [116,101,120,116]).toList) (.fin .normal [(4,.bool true)]) (.br (qs0.toList == (bytesL [115,117,109]).toList) (.fin .normal [(4,.bool true)]) (.br (qs0.toList == (bytesL [115,111,114,116]).toList) (.fin .normal [(4,.bool true)]) (.fin .normal [(4,.bool (qs0.toList == (bytesL [114,101,118]).toList))])))))) := by kernel_rfl
def s23 : Script := .ct 3 [3] mx23_1 (.sym .nil (.sym (.lit .nil) (.sym (.lit .nil) (.sym (.lit .nil) (.sym (.lit .nil) (.sym (.lit .nil) (.sym .nil (.sym .nil .nil))))))))
theorem t23 (qs0 : ByteArray) : fnT Tryz.prog Tryz.f23 #[.string qs0] s23 = .cut (at_ Tryz.f23 [1,0,1,0,0]) 21 (fx23_1 qs0) mx23_1 (fun u2 g2 => .br u2.1 (.done (.returned (.int .i64 1))) (.br (qs0.toList == (bytesL [97,116]).toList) (.done (.returned (.int .i64 2))) (.br (qs0.toList == (bytesL [116,97,107,101]).toList) (.done (.returned (.int .i64 2))) (.br (qs0.toList == (bytesL [100,114,111,112]).toList) (.done (.returned (.int .i64 2))) (.br (qs0.toList == (bytesL [109,105,110]).toList) (.done (.returned (.int .i64 2))) (.br (qs0.toList == (bytesL [109,97,120]).toList) (.done (.returned (.int .i64 2))) (.br (qs0.toList == (bytesL [104,97,115]).toList) (.done (.returned (.int .i64 2))) (.br (qs0.toList == (bytesL [112,117,116]).toList) (.done (.returned (.int .i64 3))) (.done (.returned (.int .i64 0))))))))))) := by kernel_rfl
/-! the tree of function 45 -/
def s45 : Script := .sym (.lit .nil) (.sym (.lit .nil) (.sym (.lit .nil) (.sym (.lit .nil) (.sym (.lit .nil) (.sym (.lit .nil) (.sym (.lit .nil) (.sym (.lit .nil) (.sym (.lit .nil) (.sym (.lit .nil) (.sym .nil (.cl (.one (.leaf (.int .i64))) .nil)))))))))))
theorem t45 (qs0 : ByteArray) : fnT Tryz.prog Tryz.f45 #[.string qs0] s45 = .br (qs0.toList == (bytesL [107,101,121]).toList) (.done (.returned (.bool true))) (.br (qs0.toList == (bytesL [118,97,108]).toList) (.done (.returned (.bool true))) (.br (qs0.toList == (bytesL [97,99,99]).toList) (.done (.returned (.bool true))) (.br (qs0.toList == (bytesL [104,111,112,115]).toList) (.done (.returned (.bool true))) (.br (qs0.toList == (bytesL [110,111,110,101]).toList) (.done (.returned (.bool true))) (.br (qs0.toList == (bytesL [105,102]).toList) (.done (.returned (.bool true))) (.br (qs0.toList == (bytesL [116,104,101,110]).toList) (.done (.returned (.bool true))) (.br (qs0.toList == (bytesL [101,108,115,101]).toList) (.done (.returned (.bool true))) (.br (qs0.toList == (bytesL [97,110,100]).toList) (.done (.returned (.bool true))) (.br (qs0.toList == (bytesL [111,114]).toList) (.done (.returned (.bool true))) (.br (qs0.toList == (bytesL [110,111,116]).toList) (.done (.returned (.bool true))) (.call 23 #[.string qs0] (.one (.leaf (.int .i64))) (fun x1 => .done (.returned (.bool (Decidable.decide (x1 > 0)))))))))))))))) := by kernel_rfl
/-! the tree of function 42 -/
def s42 : Script := .sym (.lit (.lit .nil)) (.lit (.lit .nil))
theorem t42 (qx0 : Int) : fnT Tryz.prog Tryz.f42 #[.int .u8 qx0] s42 = .br (Decidable.decide (qx0 ≥ 48)) (.done (.returned (.bool (Decidable.decide (qx0 ≤ 57))))) (.done (.returned (.bool false))) := by kernel_rfl
/-! the tree of function 44 -/
def s44 : Script := .sym (.lit (.lit .nil)) (.lit (.lit .nil))
theorem t44 (qx0 : Int) : fnT Tryz.prog Tryz.f44 #[.int .u8 qx0] s44 = .br (Decidable.decide (qx0 ≥ 97)) (.done (.returned (.bool (Decidable.decide (qx0 ≤ 122))))) (.done (.returned (.bool false))) := by kernel_rfl
def onesM : List Txt := [[108,101,110],[107,105,110,100],[105,110,116],[116,101,120,116],[115,117,109],[115,111,114,116],[114,101,118]]
def twosM : List Txt := [[97,116],[116,97,107,101],[100,114,111,112],[109,105,110],[109,97,120],[104,97,115]]
theorem takes_one {l : Txt} (h : l ∈ onesM) : takesM l = 1 := by
 have : ∀ l ∈ onesM,takesM l = 1 := by decide
 exact this l h
theorem takes_none {l : Txt} (h1 : l ∉ onesM) (h2 : l ∉ twosM) (h3 : l ≠ [112,117,116]) : takesM l = 0 := by
 have hc : ∀ p ∈ callsM,p.1 ∈ onesM ∨ p.1 ∈ twosM ∨ p.1 = [112,117,116] := by decide
 unfold takesM
 rw [show findB l = none from ?_]
 ·rfl
 unfold findB
 rw [List.findIdx?_eq_none_iff]
 intro p hp
 rw [beq_eq_false_iff_ne]
 rintro rfl
 rcases hc p hp with h | h | h
 ·exact h1 h
 ·exact h2 h
 ·exact h3 h
theorem takes_pos (l : Txt) : 0 < takesM l ↔ (findB l).isSome = true := by
 unfold takesM
 cases h : findB l with
 | none => simp
 | some i =>
  unfold findB at h
  rw [List.findIdx?_eq_some_iff_getElem] at h
  obtain ⟨hi,-⟩ := h
  have : ∀ i,i < 14 → 0 < takesB i := by decide
  simp only [Option.elim_some,Option.isSome_some,iff_true]
  exact this i hi
theorem takes_any (w : World) (s : ByteArray) : Calls Tryz.prog 23 #[.string s] w fun e w' => w' = w ∧ e = .returned (.int .i64 (takesM s.data.toList : Nat)) := by
 refine calls_of_fnT mixed Tryz.func23 (s := s23) ?_
 rw [t23]
 simp only [tb_list,ByteArray.toList_eq]
 obtain ⟨l,hl⟩ : ∃ l,l = s.data.toList := ⟨_,rfl⟩
 rw [← hl]
 refine cut_i mixed s23_1 (fun (v : Bool × Unit) w' => w' = w ∧ (v.1 = true ↔ l ∈ onesM)) (by kernel_rfl) (fun g => ?_) ?_
 ·rw [t23_1]
  simp only [tb_list,ByteArray.toList_eq]
  rw [← hl]
  refine br_both (fun e => ⟨rfl,(true,()),rfl,rfl,by simp [beq_iff_eq.1 e,onesM]⟩) fun e1 => ?_
  refine br_both (fun e => ⟨rfl,(true,()),rfl,rfl,by simp [beq_iff_eq.1 e,onesM]⟩) fun e2 => ?_
  refine br_both (fun e => ⟨rfl,(true,()),rfl,rfl,by simp [beq_iff_eq.1 e,onesM]⟩) fun e3 => ?_
  refine br_both (fun e => ⟨rfl,(true,()),rfl,rfl,by simp [beq_iff_eq.1 e,onesM]⟩) fun e4 => ?_
  refine br_both (fun e => ⟨rfl,(true,()),rfl,rfl,by simp [beq_iff_eq.1 e,onesM]⟩) fun e5 => ?_
  refine br_both (fun e => ⟨rfl,(true,()),rfl,rfl,by simp [beq_iff_eq.1 e,onesM]⟩) fun e6 => ?_
  refine ⟨rfl,(_,()),rfl,rfl,?_⟩
  rw [beq_eq_false_iff_ne] at e1 e2 e3 e4 e5 e6
  simp [onesM,e1,e2,e3,e4,e5,e6]
 rintro ⟨u,⟨⟩⟩ g w3 ⟨rfl,hu⟩
 dsimp only at hu
 refine br_both (fun e => ?_) fun e0 => ?_
 ·exact ⟨rfl,by rw [takes_one (hu.1 e)]; rfl⟩
 refine br_both (fun e => ⟨rfl,by rw [beq_iff_eq.1 e]; rfl⟩) fun e1 => ?_
 refine br_both (fun e => ⟨rfl,by rw [beq_iff_eq.1 e]; rfl⟩) fun e2 => ?_
 refine br_both (fun e => ⟨rfl,by rw [beq_iff_eq.1 e]; rfl⟩) fun e3 => ?_
 refine br_both (fun e => ⟨rfl,by rw [beq_iff_eq.1 e]; rfl⟩) fun e4 => ?_
 refine br_both (fun e => ⟨rfl,by rw [beq_iff_eq.1 e]; rfl⟩) fun e5 => ?_
 refine br_both (fun e => ⟨rfl,by rw [beq_iff_eq.1 e]; rfl⟩) fun e6 => ?_
 refine br_both (fun e => ⟨rfl,by rw [beq_iff_eq.1 e]; rfl⟩) fun e7 => ?_
 refine ⟨rfl,?_⟩
 rw [beq_eq_false_iff_ne] at e1 e2 e3 e4 e5 e6 e7
 have e0' : u = false := e0
 rw [takes_none (fun h => by rw [hu.2 h] at e0'; cases e0') (by simp [twosM,e1,e2,e3,e4,e5,e6]) e7]
 rfl
/-- Is it a word of the language? -/
def knownM (l : Txt) : Bool := wordsM.contains l || (findB l).isSome
theorem known_any (w : World) (s : ByteArray) : Calls Tryz.prog 45 #[.string s] w fun e w' => w' = w ∧ e = .returned (.bool (knownM s.data.toList)) := by
 refine calls_of_fnT mixed Tryz.func45 (s := s45) ?_
 rw [t45]
 simp only [tb_list,ByteArray.toList_eq]
 obtain ⟨l,hl⟩ : ∃ l,l = s.data.toList := ⟨_,rfl⟩
 rw [← hl]
 have yes : l ∈ wordsM → knownM l = true := fun h => by unfold knownM; rw [List.contains_iff_mem.2 h]; rfl
 refine br_both (fun e => ⟨rfl,by rw [yes (by rw [beq_iff_eq.1 e]; decide)]⟩) fun e1 => ?_
 refine br_both (fun e => ⟨rfl,by rw [yes (by rw [beq_iff_eq.1 e]; decide)]⟩) fun e2 => ?_
 refine br_both (fun e => ⟨rfl,by rw [yes (by rw [beq_iff_eq.1 e]; decide)]⟩) fun e3 => ?_
 refine br_both (fun e => ⟨rfl,by rw [yes (by rw [beq_iff_eq.1 e]; decide)]⟩) fun e4 => ?_
 refine br_both (fun e => ⟨rfl,by rw [yes (by rw [beq_iff_eq.1 e]; decide)]⟩) fun e5 => ?_
 refine br_both (fun e => ⟨rfl,by rw [yes (by rw [beq_iff_eq.1 e]; decide)]⟩) fun e6 => ?_
 refine br_both (fun e => ⟨rfl,by rw [yes (by rw [beq_iff_eq.1 e]; decide)]⟩) fun e7 => ?_
 refine br_both (fun e => ⟨rfl,by rw [yes (by rw [beq_iff_eq.1 e]; decide)]⟩) fun e8 => ?_
 refine br_both (fun e => ⟨rfl,by rw [yes (by rw [beq_iff_eq.1 e]; decide)]⟩) fun e9 => ?_
 refine br_both (fun e => ⟨rfl,by rw [yes (by rw [beq_iff_eq.1 e]; decide)]⟩) fun e10 => ?_
 refine br_both (fun e => ⟨rfl,by rw [yes (by rw [beq_iff_eq.1 e]; decide)]⟩) fun e11 => ?_
 refine cl_i (takes_any w s) ?_
 rintro e w' ⟨rfl,rfl⟩
 refine ⟨(((takesM s.data.toList : Nat)) : Int),rfl,rfl,?_⟩
 rw [← hl]
 rw [beq_eq_false_iff_ne] at e1 e2 e3 e4 e5 e6 e7 e8 e9 e10 e11
 have hw : wordsM.contains l = false := by
  cases h : wordsM.contains l with
  | false => rfl
  | true =>
   have h := List.contains_iff_mem.1 h
   simp only [wordsM,List.mem_cons,List.not_mem_nil,or_false] at h
   rcases h with h | h | h | h | h | h | h | h | h | h | h
   ·exact absurd h e1
   ·exact absurd h e2
   ·exact absurd h e3
   ·exact absurd h e4
   ·exact absurd h e5
   ·exact absurd h e6
   ·exact absurd h e7
   ·exact absurd h e8
   ·exact absurd h e9
   ·exact absurd h e10
   ·exact absurd h e11
 unfold knownM
 rw [hw,Bool.false_or]
 have hp := takes_pos l
 show Ending.returned (.bool (decide (((takesM l : Nat) : Int) > 0))) = _
 by_cases h : 0 < takesM l
 ·rw [hp.1 h,decide_eq_true (by omega)]
 ·rw [decide_eq_false (by omega)]
  cases hf : (findB l).isSome with
  | false => rfl
  | true => exact absurd (hp.2 hf) h
theorem digit_any (w : World) (c : UInt8) : Calls Tryz.prog 42 #[.int .u8 (c.toNat : Nat)] w fun e w' => w' = w ∧ e = .returned (.bool (isD c)) := by
 refine calls_of_fnT mixed Tryz.func42 (s := s42) ?_
 rw [t42,← hdP_dig c [],hdP_cons]
 refine br_both (fun e => ⟨rfl,?_⟩) fun e => ⟨rfl,?_⟩
 ·rw [decide_eq_true (show (48 : Int) ≤ ((c.toNat : Nat) : Int) from ge_t e)]; rfl
 ·rw [decide_eq_false (show ¬ (48 : Int) ≤ ((c.toNat : Nat) : Int) from of_decide_eq_false e)]; rfl
theorem letter_any (w : World) (c : UInt8) : Calls Tryz.prog 44 #[.int .u8 (c.toNat : Nat)] w fun e w' => w' = w ∧ e = .returned (.bool (isL c)) := by
 refine calls_of_fnT mixed Tryz.func44 (s := s44) ?_
 rw [t44,← hdP_low c [],hdP_cons]
 refine br_both (fun e => ⟨rfl,?_⟩) fun e => ⟨rfl,?_⟩
 ·rw [decide_eq_true (show (97 : Int) ≤ ((c.toNat : Nat) : Int) from ge_t e)]; rfl
 ·rw [decide_eq_false (show ¬ (97 : Int) ≤ ((c.toNat : Nat) : Int) from of_decide_eq_false e)]; rfl
end Go.Proofs.YtmdmomccibpjbaaGreatDoor.E
namespace Go.Proofs.YtmdmomccibpjbaaGreatDoor.E
open Go Tr
open V (rest rest_cases restL sizeB pk_rest cx_i cp_i extract_list)
set_option maxRecDepth 100000
set_option maxHeartbeats 1000000
/-! the tree of function 43 -/
abbrev fx43_1 (qs0 : ByteArray) : List (Tmp × Value) := [(0,.string qs0)]
abbrev m43_1 : List (Tmp × Comp) := [(4,.leaf (.int .i64)),(5,.leaf (.int .i64))]
abbrev mx43_1 : List (Tmp × Comp) := [(4,.leaf (.int .i64))]
abbrev mr43_1 : List (Tmp × Comp) := [(2,.leaf (.int .i64)),(3,.leaf .bool)]
def s43_1 : Script := .sym (.ix (.sym .nil .nil)) .nil
theorem t43_1 (qs0 : ByteArray) (x_4 : Int) (x_5 : Int) (gg1 : Nat → Value) : pieceT Tryz.prog (at_ Tryz.f43 [1,1,0,1,0,0]) 28 (fx43_1 qs0 ++ mvals m43_1 (x_4,x_5,())) gg1 (m43_1.map (·.1)) (mx43_1.map (·.1)) (mr43_1.map (·.1)) s43_1 = .br (Decidable.decide (x_5 < (↑qs0.size : Int))) (.bidx qs0 x_5 (fun c2 => .br (Decidable.decide (x_4 > IntKind.i64.wrap ((IntKind.i64.wrap (9223372036854775807 - IntKind.i64.wrap (IntKind.u8.wrap (c2 - 48)))).tdiv 10))) (.fin .ret [(2,.int .i64 0),(3,.bool false)]) (.fin .normal [(4,.int .i64 (IntKind.i64.wrap (IntKind.i64.wrap (10 * x_4) + IntKind.i64.wrap (IntKind.u8.wrap (c2 - 48))))),(5,.int .i64 (IntKind.i64.wrap (x_5 + 1)))]))) (.fin (.exit 0) [(4,.int .i64 x_4)]) := by kernel_rfl
def s43 : Script := .lp 0 [0] [4,5] mx43_1 mr43_1 .nil .nil
theorem t43 (qs0 : ByteArray) : fnT Tryz.prog Tryz.f43 #[.string qs0] s43 = .loop (at_ Tryz.f43 [1,1,0,1,0,0]) 28 (fx43_1 qs0) [(4,.int .i64 0),(5,.int .i64 0)] mx43_1 mr43_1 0 (fun u3 g3 => .done (.returned (.tuple #[.int .i64 u3.1,.bool true]))) (fun u4 g4 => .done (.returned (.tuple #[.int .i64 u4.1,.bool u4.2.1]))) := by kernel_rfl
/-! the tree of function 46 -/
abbrev fx46_1 (qs0 : ByteArray) : List (Tmp × Value) := [(0,.string qs0)]
abbrev m46_1 : List (Tmp × Comp) := [(5,.leaf (.int .i64)),(6,.leaf (.int .i64))]
abbrev mx46_1 : List (Tmp × Comp) := []
abbrev mr46_1 : List (Tmp × Comp) := [(4,.leaf (.int .i64))]
abbrev fx46_2 (qs0 : ByteArray) (x_5 : Int) (x_6 : Int) : List (Tmp × Value) := [(0,.string qs0),(5,.int .i64 x_5),(6,.int .i64 x_6)]
abbrev mx46_2 : List (Tmp × Comp) := [(23,.leaf .bool)]
def s46_2 : Script := .ix (.sym (.lit (.lit (.lit .nil))) (.lit (.lit (.lit .nil))))
theorem t46_2 (qs0 : ByteArray) (x_5 : Int) (x_6 : Int) (gg2 : Nat → Value) : pieceT Tryz.prog (at_ Tryz.f46 [1,1,0,1,0,0,1,0,0,0,0]) 34 (fx46_2 qs0 x_5 x_6) gg2 (mx46_2.map (·.1)) [] [] s46_2 = .bidx qs0 x_6 (fun c3 => .br (c3 == 34) (.fin .normal [(23,.bool (x_5.tmod 2 == 0))]) (.fin .normal [(23,.bool false)])) := by kernel_rfl
def s46_1 : Script := .sym (.ct 2 [0,5,6] mx46_2 (.sym .nil (.ix (.sym .nil .nil)))) .nil
theorem t46_1 (qs0 : ByteArray) (x_5 : Int) (x_6 : Int) (gg1 : Nat → Value) : pieceT Tryz.prog (at_ Tryz.f46 [1,1,0,1,0,0]) 34 (fx46_1 qs0 ++ mvals m46_1 (x_5,x_6,())) gg1 (m46_1.map (·.1)) (mx46_1.map (·.1)) (mr46_1.map (·.1)) s46_1 = .br (Decidable.decide (x_6 < (↑qs0.size : Int))) (.cut (at_ Tryz.f46 [1,1,0,1,0,0,1,0,0,0,0]) 34 (fx46_2 qs0 x_5 x_6) mx46_2 (fun u4 g4 => .br u4.1 (.fin .ret [(4,.int .i64 (IntKind.i64.wrap (x_6 + 1)))]) (.bidx qs0 x_6 (fun c5 => .br (c5 == 92) (.fin .normal [(5,.int .i64 (IntKind.i64.wrap (x_5 + 1))),(6,.int .i64 (IntKind.i64.wrap (x_6 + 1)))]) (.fin .normal [(5,.int .i64 0),(6,.int .i64 (IntKind.i64.wrap (x_6 + 1)))]))))) (.fin (.exit 0) []) := by kernel_rfl
def s46 : Script := .lp 0 [0] [5,6] mx46_1 mr46_1 .nil .nil
theorem t46 (qs0 : ByteArray) (qx1 : Int) : fnT Tryz.prog Tryz.f46 #[.string qs0,.int .i64 qx1] s46 = .loop (at_ Tryz.f46 [1,1,0,1,0,0]) 34 (fx46_1 qs0) [(5,.int .i64 0),(6,.int .i64 (IntKind.i64.wrap (qx1 + 1)))] mx46_1 mr46_1 0 (fun u6 g6 => .done (.returned (.int .i64 (↑qs0.size : Int)))) (fun u7 g7 => .done (.returned (.int .i64 u7.1))) := by kernel_rfl
theorem num3_any (w : World) (s : ByteArray) (hd : ∀ c ∈ s.data.toList,isD c = true) (hs : s.size ≤ 100) : Calls Tryz.prog 43 #[.string s] w fun e w' => w' = w ∧ match numB 0 s.data.toList with
  | none => e = .returned (.tuple #[.int .i64 0,.bool false])
  | some (x,_) => e = .returned (.tuple #[.int .i64 (x : Nat),.bool true]) := by
 refine calls_of_fnT mixed Tryz.func43 (s := s43) ?_
 rw [t43]
 refine loop_i mixed m43_1 s43_1 (by kernel_rfl) (by kernel_rfl)
  (fun (v : Int × Int × Unit) w' => ∃ i x : Nat,v.1 = (x : Nat) ∧ v.2.1 = (i : Nat) ∧ i ≤ s.size ∧ x ≤ 9223372036854775807 ∧ w' = w ∧ numB 0 s.data.toList = numB x (rest s i))
  (fun (v : Int × Int × Unit) _ => s.size - v.2.1.toNat) (0,0,()) rfl ⟨0,0,rfl,rfl,by omega,by omega,rfl,rfl⟩ ?_
 rintro ⟨_,_,⟨⟩⟩ g w2 ⟨i,x,rfl,rfl,hi,hx,rfl,hm⟩
 rw [t43_1]
 dsimp only
 refine br_both (fun e => ?_) fun e => ?_
 ·have e := lt_t e
  have hlt : i < s.size := by omega
  refine bi_i (by omega) hlt ?_
  obtain ⟨c,hc⟩ : ∃ c,c = s[i]'hlt := ⟨_,rfl⟩
  rw [show s[((i : Nat) : Int).toNat]'hlt = c from hc.symm]
  have hr : rest s i = c :: rest s (i + 1) := by rw [hc]; exact pk_rest hlt
  have hdc : isD c = true := hd c (List.mem_of_mem_drop (i := i) (show c ∈ rest s i by rw [hr]; exact List.mem_cons_self ..))
  have e0 := isD_iff.1 hdc
  rw [hr,numB_dig hdc] at hm
  clear hc hr
  have hD : IntKind.i64.wrap (IntKind.u8.wrap ((c.toNat : Int) - 48)) = ((c.toNat - 48 : Nat) : Int) := by
   rw [show IntKind.u8.wrap ((c.toNat : Int) - 48) = ((c.toNat - 48 : Nat) : Int) by rw [IntKind.wrap_u8']; omega,IntKind.wrap_i64]
   omega
  have hT : IntKind.i64.wrap ((IntKind.i64.wrap (9223372036854775807 - ((c.toNat - 48 : Nat) : Int))).tdiv 10) = (((9223372036854775807 - (c.toNat - 48)) / 10 : Nat) : Int) := by
   rw [IntKind.wrap_i64,IntKind.wrap_i64,Int.tdiv_eq_ediv_of_nonneg (by omega)]
   omega
  rw [hD,hT]
  refine br_both (fun e => ?_) fun e => ?_
  ·have e := gt_t e
   refine ⟨(0,false,()),rfl,fun g => ⟨rfl,?_⟩⟩
   rw [hm,if_pos (by omega)]
  ·have e := gt_f e
   have hle : ¬ (9223372036854775807 - (c.toNat - 48)) / 10 < x := by omega
   rw [if_neg hle] at hm
   rw [show IntKind.i64.wrap (IntKind.i64.wrap (10 * ((x : Nat) : Int)) + ((c.toNat - 48 : Nat) : Int)) = ((10 * x + (c.toNat - 48) : Nat) : Int) from num_step hle (by omega)]
   refine ⟨(_,_,()),rfl,⟨i + 1,10 * x + (c.toNat - 48),rfl,wrap_succ (by omega) (by omega),by omega,num_le hle (by omega),rfl,hm⟩,?_⟩
   show s.size - (IntKind.i64.wrap ((i : Int) + 1)).toNat < s.size - ((i : Nat) : Int).toNat
   rw [wrap_succ (by omega) (by omega)]
   omega
 ·have e := lt_f e
  refine ⟨rfl,(_,()),rfl,fun g => ⟨rfl,?_⟩⟩
  rcases rest_cases s i hi with ⟨hr,_⟩ | ⟨hlt,_⟩
  ·rw [hm,hr]
   rfl
  ·omega
theorem u8_of {c d : UInt8} (h : ((c.toNat : Nat) : Int) = (d.toNat : Nat)) : c = d := UInt8.toNat_inj.1 (by omega)
theorem par_k (k : Nat) : (((k : Nat) : Int).tmod 2 == 0) = decide (k % 2 = 0) := by
 rw [Int.tmod_eq_emod_of_nonneg (by omega),Bool.eq_iff_iff,beq_iff_eq,decide_eq_true_eq]
 omega
theorem clo_any (w : World) (s : ByteArray) (a : Nat) (ha : a < s.size) (hs : s.size ≤ 100) : Calls Tryz.prog 46 #[.string s,.int .i64 (a : Nat)] w fun e w' => w' = w ∧ e = .returned (.int .i64 ((a + 1 + cloB false (rest s (a + 1)) : Nat) : Int)) := by
 refine calls_of_fnT mixed Tryz.func46 (s := s46) ?_
 rw [t46]
 refine loop_i mixed m46_1 s46_1 (by kernel_rfl) (by kernel_rfl)
  (fun (v : Int × Int × Unit) w' => ∃ k j : Nat,v.1 = (k : Nat) ∧ v.2.1 = (j : Nat) ∧ a + 1 ≤ j ∧ j ≤ s.size ∧ k ≤ j ∧ w' = w ∧ a + 1 + cloB false (rest s (a + 1)) = j + cloB (decide (k % 2 = 1)) (rest s j))
  (fun (v : Int × Int × Unit) _ => s.size - v.2.1.toNat) (0,IntKind.i64.wrap ((a : Int) + 1),()) rfl ⟨0,a + 1,rfl,wrap_succ (by omega) (by omega),by omega,by omega,by omega,rfl,rfl⟩ ?_
 rintro ⟨_,_,⟨⟩⟩ g w2 ⟨k,j,rfl,rfl,haj,hj,hk,rfl,hm⟩
 rw [t46_1]
 dsimp only
 refine br_both (fun e => ?_) fun e => ?_
 ·have e := lt_t e
  have hlt : j < s.size := by omega
  obtain ⟨c,hc⟩ : ∃ c,c = s[j]'hlt := ⟨_,rfl⟩
  have hr : rest s j = c :: rest s (j + 1) := by rw [hc]; exact pk_rest hlt
  rw [hr,cloB_cons] at hm
  refine cut_i mixed s46_2 (fun (v : Bool × Unit) w' => w' = w2 ∧ v.1 = decide (c = 34 ∧ k % 2 = 0)) (by kernel_rfl) (fun g => ?_) ?_
  ·rw [t46_2]
   refine bi_i (by omega) hlt ?_
   rw [show s[((j : Nat) : Int).toNat]'hlt = c from hc.symm]
   refine br_both (fun e => ?_) fun e => ?_
   ·have e : c = 34 := u8_of (eq_t e)
    refine ⟨rfl,(_,()),rfl,rfl,?_⟩
    dsimp only
    rw [par_k]
    simp [e]
   ·have e : ¬ c = 34 := by
     rintro rfl
     exact absurd e (by decide)
    exact ⟨rfl,(false,()),rfl,rfl,by simp [e]⟩
  rintro ⟨u,⟨⟩⟩ g w3 ⟨rfl,hu⟩
  dsimp only at hu
  subst hu
  refine br_both (fun e => ?_) fun e => ?_
  ·have e := of_decide_eq_true (show decide (c = 34 ∧ k % 2 = 0) = true from e)
   refine ⟨(IntKind.i64.wrap ((j : Int) + 1),()),rfl,fun g => ⟨rfl,?_⟩⟩
   show Ending.returned (.int .i64 (IntKind.i64.wrap ((j : Int) + 1))) = _
   rw [hm,if_pos ⟨e.1,decide_eq_false (by omega)⟩,wrap_succ (by omega) (by omega)]
   rfl
  ·have e := of_decide_eq_false (show decide (c = 34 ∧ k % 2 = 0) = false from e)
   rw [if_neg (fun h => e ⟨h.1,by have := of_decide_eq_false h.2; omega⟩)] at hm
   refine bi_i (by omega) hlt ?_
   rw [show s[((j : Nat) : Int).toNat]'hlt = c from hc.symm]
   refine br_both (fun e => ?_) fun e => ?_
   ·have e : c = 92 := u8_of (eq_t e)
    refine ⟨(_,_,()),rfl,⟨k + 1,j + 1,wrap_succ (by omega) (by omega),wrap_succ (by omega) (by omega),by omega,by omega,by omega,rfl,?_⟩,?_⟩
    ·rw [hm,show (decide (c = 92) && !decide (k % 2 = 1)) = decide ((k + 1) % 2 = 1) from ?_]
     ·omega
     ·rw [decide_eq_true e,Bool.true_and,Bool.eq_iff_iff,Bool.not_eq_true',decide_eq_false_iff_not,decide_eq_true_eq]
      omega
    ·show s.size - (IntKind.i64.wrap ((j : Int) + 1)).toNat < s.size - ((j : Nat) : Int).toNat
     rw [wrap_succ (by omega) (by omega)]
     omega
   ·have e : ¬ c = 92 := by
     rintro rfl
     exact absurd e (by decide)
    refine ⟨(0,_,()),rfl,⟨0,j + 1,rfl,wrap_succ (by omega) (by omega),by omega,by omega,by omega,rfl,?_⟩,?_⟩
    ·rw [hm,show (decide (c = 92) && !decide (k % 2 = 1)) = decide (0 % 2 = 1) from ?_]
     ·omega
     ·rw [decide_eq_false e]; rfl
    ·show s.size - (IntKind.i64.wrap ((j : Int) + 1)).toNat < s.size - ((j : Nat) : Int).toNat
     rw [wrap_succ (by omega) (by omega)]
     omega
 ·have e := lt_f e
  refine ⟨rfl,(),rfl,fun g => ⟨rfl,?_⟩⟩
  rcases rest_cases s j hj with ⟨hr,_⟩ | ⟨hlt,_⟩
  ·rw [hm,hr,cloB,show j = s.size by omega]
   rfl
  ·omega
end Go.Proofs.YtmdmomccibpjbaaGreatDoor.E
namespace Go.Proofs.YtmdmomccibpjbaaGreatDoor.E
open Go Tr
open V (rest rest_cases restL sizeB pk_rest cx_i cp_i extract_list pk hexP)
set_option maxRecDepth 100000
set_option maxHeartbeats 1000000
def hexI : Txt → Option (UInt8 × Txt)
 | x :: y :: r => (match hexP x.toNat,hexP y.toNat with
  | some a,some b => some (UInt8.ofNat (a * 16 + b),r)
  | _,_ => none)
 | _ => none
def escI : Txt → Option (UInt8 × Txt)
 | [] => none
 | d :: r => if d = 34 ∨ d = 92 then some (d,r) else if d = 110 then some (10,r) else if d = 116 then some (9,r)
  else if d = 120 then hexI r
  else none
/-- What stands between the quotes. -/
def inB : Nat → Txt → Txt → Option Txt
 | 0,_,_ => none
 | _ + 1,acc,[] => some acc
 | k + 1,acc,c :: r => if okc c = true ∨ c = 34 then none else if c = 92 then (match escI r with
   | none => none
   | some (b,r') => inB k (acc ++ [b]) r')
  else inB k (acc ++ [c]) r
def meantB (p : Txt) : Option Txt := if p.length < 2 ∨ p.getLast? ≠ some 34 then none else match inB p.length [] p.tail.dropLast with
 | none => none
 | some t => if t.length ≤ 24 then some t else none
theorem u8n (d : UInt8) (n : UInt8) : d.toNat = n.toNat ↔ d = n := UInt8.toNat_inj
def EscR (r : Txt) : Option (UInt8 × Txt) → Prop
 | some (b,r') => V.escX (r ++ [34]) = .ok (b,r' ++ [34]) ∧ r'.length < r.length ∧ ∀ c ∈ r',c ∈ r
 | none => (∃ e,V.escX (r ++ [34]) = .error e) ∨ ∃ b,V.escX (r ++ [34]) = .ok (b,[])
theorem pk_c (c : UInt8) (r : Txt) : pk (c :: r) = c.toNat := rfl
theorem esc_i : ∀ r,EscR r (escI r)
 | [] => .inr ⟨34,rfl⟩
 | d :: r => by
  have e34 : d.toNat = 34 ↔ d = 34 := u8n d 34
  have e92 : d.toNat = 92 ↔ d = 92 := u8n d 92
  have e110 : d.toNat = 110 ↔ d = 110 := u8n d 110
  have e116 : d.toNat = 116 ↔ d = 116 := u8n d 116
  have e120 : d.toNat = 120 ↔ d = 120 := u8n d 120
  have hx : V.escX (d :: r ++ [34]) = (if d = 34 then .ok (34,r ++ [34]) else if d = 92 then .ok (92,r ++ [34]) else if d = 110 then .ok (10,r ++ [34]) else if d = 116 then .ok (9,r ++ [34])
   else if d = 120 then match hexP (pk (r ++ [34])) with
    | none => .error (28,(r ++ [34]).length)
    | some x => match hexP (pk (r ++ [34]).tail) with
     | none => .error (28,(r ++ [34]).tail.length)
     | some y => .ok (UInt8.ofNat (x * 16 + y),(r ++ [34]).tail.tail)
   else .error (28,(d :: r ++ [34]).length)) := by
   unfold V.escX
   simp only [List.cons_append,pk_c,List.tail_cons,e34,e92,e110,e116,e120]
   rfl
  have sub : ∀ c ∈ r,c ∈ d :: r := fun c h => List.mem_cons_of_mem _ h
  by_cases h1 : d = 34
  ·rw [show escI (d :: r) = some (d,r) by unfold escI; dsimp only; rw [if_pos (.inl h1)]]
   exact ⟨by rw [hx,if_pos h1,h1],by simp,sub⟩
  by_cases h2 : d = 92
  ·rw [show escI (d :: r) = some (d,r) by unfold escI; dsimp only; rw [if_pos (.inr h2)]]
   exact ⟨by rw [hx,if_neg h1,if_pos h2,h2],by simp,sub⟩
  have h12 : ¬ (d = 34 ∨ d = 92) := fun h => h.elim h1 h2
  by_cases h3 : d = 110
  ·rw [show escI (d :: r) = some (10,r) by unfold escI; dsimp only; rw [if_neg h12,if_pos h3]]
   exact ⟨by rw [hx,if_neg h1,if_neg h2,if_pos h3],by simp,sub⟩
  by_cases h4 : d = 116
  ·rw [show escI (d :: r) = some (9,r) by unfold escI; dsimp only; rw [if_neg h12,if_neg h3,if_pos h4]]
   exact ⟨by rw [hx,if_neg h1,if_neg h2,if_neg h3,if_pos h4],by simp,sub⟩
  by_cases h5 : d = 120
  ·rw [if_neg h1,if_neg h2,if_neg h3,if_neg h4,if_pos h5] at hx
   rw [show escI (d :: r) = hexI r by unfold escI; dsimp only; rw [if_neg h12,if_neg h3,if_neg h4,if_pos h5]]
   have q34 : hexP 34 = none := rfl
   match r,hx,sub with
   | [],hx,_ =>
    exact .inl ⟨(28,1),hx.trans rfl⟩
   | [x],hx,_ =>
    cases hh : hexP x.toNat with
    | none =>
     have hx : V.escX (d :: [x] ++ [34]) = (match hexP x.toNat with
      | none => .error (28,([x] ++ [34]).length)
      | some x => match hexP 34 with
       | none => .error (28,1)
       | some y => .ok (UInt8.ofNat (x * 16 + y),[])) := hx
     rw [hh] at hx
     exact .inl ⟨_,hx⟩
    | some a =>
     have hx : V.escX (d :: [x] ++ [34]) = (match hexP x.toNat with
      | none => .error (28,([x] ++ [34]).length)
      | some x => match hexP 34 with
       | none => .error (28,1)
       | some y => .ok (UInt8.ofNat (x * 16 + y),[])) := hx
     rw [hh] at hx
     exact .inl ⟨_,hx⟩
   | x :: y :: r2,hx,sub =>
    have hx : V.escX (d :: x :: y :: r2 ++ [34]) = (match hexP x.toNat with
      | none => .error (28,(x :: y :: r2 ++ [34]).length)
      | some a => match hexP y.toNat with
       | none => .error (28,(y :: r2 ++ [34]).length)
       | some b => .ok (UInt8.ofNat (a * 16 + b),r2 ++ [34])) := hx
    cases ha : hexP x.toNat with
    | none =>
     rw [ha] at hx
     rw [show hexI (x :: y :: r2) = none by unfold hexI; dsimp only; rw [ha]]
     exact .inl ⟨_,hx⟩
    | some a =>
     rw [ha] at hx
     cases hb : hexP y.toNat with
     | none =>
      rw [hb] at hx
      rw [show hexI (x :: y :: r2) = none by unfold hexI; dsimp only; rw [ha,hb]]
      exact .inl ⟨_,hx⟩
     | some b =>
      rw [hb] at hx
      rw [show hexI (x :: y :: r2) = some (UInt8.ofNat (a * 16 + b),r2) by unfold hexI; dsimp only; rw [ha,hb]]
      exact ⟨hx,by simp only [List.length_cons]; omega,fun c h => sub c (by simp [h])⟩
  ·rw [if_neg h1,if_neg h2,if_neg h3,if_neg h4,if_neg h5] at hx
   rw [show escI (d :: r) = none by unfold escI; dsimp only; rw [if_neg h12,if_neg h3,if_neg h4,if_neg h5]]
   exact .inl ⟨_,hx⟩
def InR (x : Except V.Flt (Txt × Txt)) : Option Txt → Prop
 | some b => x = .ok (b,[])
 | none => (∃ e,x = .error e) ∨ ∃ b r,x = .ok (b,r) ∧ r.getLast? = some 34
theorem okc_f {c : UInt8} (h : okc c = false) : 32 ≤ c.toNat ∧ c.toNat ≤ 126 := by
 unfold okc at h
 rw [Bool.or_eq_false_iff,decide_eq_false_iff_not,decide_eq_false_iff_not] at h
 omega
theorem readX_nil (j : Nat) (acc : Txt) : ∃ e,V.readX j acc [] = .error e := by
 cases j with
 | zero => exact ⟨_,rfl⟩
 | succ j =>
  rw [V.readX_rune j acc [] (by decide) (by decide) (by decide),if_pos (.inl (by decide))]
  exact ⟨_,rfl⟩
theorem in_read : ∀ (k j : Nat) (acc l : Txt),l.length < k → l.length + 1 < j → (∀ c ∈ l,okc c = false) → InR (V.readX j acc (l ++ [34])) (inB k acc l)
 | 0,_,_,_,h,_,_ => absurd h (by omega)
 | k + 1,0,_,_,_,h,_ => absurd h (by omega)
 | k + 1,j + 1,acc,[],_,_,_ => V.readX_end j acc [34] rfl
 | k + 1,j + 1,acc,c :: r,hk,hj,hp => by
  have hc := hp c (List.mem_cons_self ..)
  have hc' := okc_f hc
  simp only [List.length_cons] at hk hj
  by_cases h34 : c = 34
  ·subst h34
   rw [show inB (k + 1) acc (34 :: r) = none by unfold inB; rw [if_pos (.inr rfl)]]
   rw [List.cons_append]
   exact .inr ⟨_,_,V.readX_end j acc (34 :: (r ++ [34])) rfl,by simp⟩
  by_cases h92 : c = 92
  ·subst h92
   rw [List.cons_append,V.readX_back j acc (92 :: (r ++ [34])) rfl,List.tail_cons]
   rw [show inB (k + 1) acc (92 :: r) = (match escI r with
    | none => none
    | some (b,r') => inB k (acc ++ [b]) r') by
     conv => lhs; unfold inB
     rw [if_neg (by simp [hc]),if_pos rfl]]
   have he := esc_i r
   cases hi : escI r with
   | none =>
    rw [hi] at he
    rcases he with ⟨e,he⟩ | ⟨b,he⟩
    ·rw [he]
     exact .inl ⟨_,rfl⟩
    ·rw [he]
     exact .inl (readX_nil j _)
   | some y =>
    obtain ⟨b,r'⟩ := y
    rw [hi] at he
    obtain ⟨he,hl,hs⟩ := he
    rw [he]
    exact in_read k j _ r' (by omega) (by omega) fun x hx => hp x (List.mem_cons_of_mem _ (hs x hx))
  ·have n34 : ¬ c.toNat = 34 := fun h => h34 ((u8n c 34).1 h)
   have n92 : ¬ c.toNat = 92 := fun h => h92 ((u8n c 92).1 h)
   rw [List.cons_append,V.readX_plain j acc (c :: (r ++ [34])) n34 n92 hc',List.tail_cons,pk_c,UInt8.ofNat_toNat]
   rw [show inB (k + 1) acc (c :: r) = inB k (acc ++ [c]) r by
     conv => lhs; unfold inB
     rw [if_neg (by simp [hc,h34]),if_neg h92]]
   exact in_read k j _ r (by omega) (by omega) fun x hx => hp x (List.mem_cons_of_mem _ hx)
end Go.Proofs.YtmdmomccibpjbaaGreatDoor.E
namespace Go.Proofs.YtmdmomccibpjbaaGreatDoor.E
open Go Tr
open V (rest rest_cases restL sizeB pk_rest cx_i cp_i extract_list pk hexP)
set_option maxRecDepth 100000
set_option maxHeartbeats 1000000
theorem clo_plain {c : UInt8} (h1 : c ≠ 34) (h2 : c ≠ 92) (r : Txt) : cloB false (c :: r) = 1 + cloB false r := by
 rw [cloB_cons,if_neg (fun h => h1 h.1),decide_eq_false h2]; rfl
theorem clo_odd (c : UInt8) (r : Txt) : cloB true (c :: r) = 1 + cloB false r := by
 rw [cloB_cons,if_neg (fun h => nomatch h.2),Bool.not_true,Bool.and_false]
theorem hex_ne {x : UInt8} {a : Nat} (h : hexP x.toNat = some a) : x ≠ 34 ∧ x ≠ 92 := by
 constructor
 ·rintro rfl
  have : hexP (34 : UInt8).toNat = none := rfl
  rw [this] at h; cases h
 ·rintro rfl
  have : hexP (92 : UInt8).toNat = none := rfl
  rw [this] at h; cases h
theorem escX_pos {t t' : Txt} {b : UInt8} (h : V.escX t = .ok (b,t')) : ∃ p,t = p ++ t' ∧ cloB true t = p.length + cloB false t' := by
 cases t with
 | nil => cases h
 | cons d r =>
  have simple : t' = r → ∃ p,d :: r = p ++ t' ∧ cloB true (d :: r) = p.length + cloB false t' := by
   rintro rfl
   exact ⟨[d],rfl,clo_odd d t'⟩
  unfold V.escX at h
  rw [List.tail_cons] at h
  split at h
  ·cases h; exact simple rfl
  split at h
  ·cases h; exact simple rfl
  split at h
  ·cases h; exact simple rfl
  split at h
  ·cases h; exact simple rfl
  split at h
  ·cases r with
   | nil => cases h
   | cons x r =>
    rw [pk_c,List.tail_cons] at h
    cases hx : hexP x.toNat with
    | none => rw [hx] at h; cases h
    | some a =>
     rw [hx] at h
     cases r with
     | nil => cases h
     | cons y r =>
      dsimp only at h
      rw [pk_c,List.tail_cons] at h
      cases hy : hexP y.toNat with
      | none => rw [hy] at h; cases h
      | some b' =>
       rw [hy] at h
       cases h
       refine ⟨[d,x,y],rfl,?_⟩
       rw [clo_odd,clo_plain (hex_ne hx).1 (hex_ne hx).2,clo_plain (hex_ne hy).1 (hex_ne hy).2]
       simp only [List.length_cons,List.length_nil]
       omega
  ·cases h
theorem read_pos : ∀ (k : Nat) (acc l b r : Txt),(∀ c ∈ l,okc c = false) → V.readX k acc l = .ok (b,r) → ∃ q,l = q ++ 34 :: r ∧ cloB false l = q.length + 1
 | 0,_,_,_,_,_,h => nomatch h
 | k + 1,acc,[],b,r,_,h => by
  obtain ⟨e,he⟩ := readX_nil (k + 1) acc
  rw [he] at h; cases h
 | k + 1,acc,c :: t,b,r,hp,h => by
  have hc := okc_f (hp c (List.mem_cons_self ..))
  by_cases h34 : c = 34
  ·subst h34
   rw [V.readX_end k acc (34 :: t) rfl] at h
   cases h
   exact ⟨[],rfl,by rw [cloB_cons,if_pos ⟨rfl,rfl⟩]; rfl⟩
  by_cases h92 : c = 92
  ·subst h92
   rw [V.readX_back k acc (92 :: t) rfl,List.tail_cons] at h
   cases he : V.escX t with
   | error e => rw [he] at h; cases h
   | ok y =>
    obtain ⟨b',t'⟩ := y
    rw [he] at h
    obtain ⟨p,rfl,hcl⟩ := escX_pos he
    obtain ⟨q,rfl,hq⟩ := read_pos k _ t' b r (fun x hx => hp x (by simp [hx])) h
    refine ⟨92 :: (p ++ q),by simp,?_⟩
    rw [cloB_cons,if_neg (fun h => h34 h.1)]
    show 1 + cloB true _ = _
    rw [hcl,hq]
    simp only [List.length_cons,List.length_append]
    omega
  ·have n34 : ¬ c.toNat = 34 := fun h => h34 ((u8n c 34).1 h)
   have n92 : ¬ c.toNat = 92 := fun h => h92 ((u8n c 92).1 h)
   rw [V.readX_plain k acc (c :: t) n34 n92 hc,List.tail_cons] at h
   obtain ⟨q,rfl,hq⟩ := read_pos k _ t b r (fun x hx => hp x (by simp [hx])) h
   refine ⟨c :: q,rfl,?_⟩
   rw [clo_plain h34 h92,hq]
   simp only [List.length_cons]
   omega
theorem clo_open : ∀ (odd : Bool) (t : Txt),(t.take (cloB odd t)).getLast? ≠ some 34 → cloB odd t = t.length
 | _,[],_ => rfl
 | odd,c :: r,h => by
  rw [cloB_cons] at h ⊢
  by_cases hc : c = 34 ∧ odd = false
  ·rw [if_pos hc,hc.1] at h
   exact absurd rfl h
  ·rw [if_neg hc] at h ⊢
   rw [List.length_cons,Nat.add_comm 1]
   rw [Nat.add_comm 1,List.take_succ_cons] at h
   refine congrArg (· + 1) (clo_open _ r ?_)
   intro e
   refine h ?_
   rw [List.getLast?_cons,e]
   rfl
theorem esc_keep {r r' : Txt} {b c : UInt8} (h : escI r = some (b,r')) (hc : c ∈ r) (ho : okc c = true) : c ∈ r' := by
 have no : ∀ x : UInt8,okc x = false → c ≠ x := by
  rintro x hx rfl
  rw [ho] at hx; cases hx
 have hexok : ∀ (x : UInt8) (a : Nat),hexP x.toNat = some a → okc x = false := by
  intro x a h
  unfold V.hexP at h
  unfold okc
  rw [Bool.or_eq_false_iff,decide_eq_false_iff_not,decide_eq_false_iff_not]
  split at h
  ·omega
  split at h
  ·omega
  split at h
  ·omega
  ·cases h
 cases r with
 | nil => cases h
 | cons d r =>
  have tl : c ≠ d → c ∈ r := fun hn => (List.mem_cons.1 hc).resolve_left hn
  unfold escI at h
  dsimp only at h
  split at h
  ·rename_i hd
   cases h
   rcases hd with rfl | rfl
   ·exact tl (no _ rfl)
   ·exact tl (no _ rfl)
  split at h
  ·rename_i hd
   cases h; subst hd
   exact tl (no _ rfl)
  split at h
  ·rename_i hd
   cases h; subst hd
   exact tl (no _ rfl)
  split at h
  ·rename_i hd
   subst hd
   have hm := tl (no _ rfl)
   match r,hm,h with
   | [],_,h => cases h
   | [x],_,h => cases h
   | x :: y :: r2,hm,h =>
    unfold hexI at h
    dsimp only at h
    split at h
    ·rename_i a b' ha hb
     cases h
     rcases List.mem_cons.1 hm with rfl | hm
     ·exact absurd rfl (no _ (hexok _ _ ha))
     rcases List.mem_cons.1 hm with rfl | hm
     ·exact absurd rfl (no _ (hexok _ _ hb))
     ·exact hm
    ·cases h
  ·cases h
theorem in_bad : ∀ (k : Nat) (acc l : Txt) (c : UInt8),c ∈ l → okc c = true → inB k acc l = none
 | 0,_,_,_,_,_ => rfl
 | k + 1,acc,[],c,h,_ => nomatch h
 | k + 1,acc,d :: r,c,h,ho => by
  unfold inB
  by_cases h1 : okc d = true ∨ d = 34
  ·rw [if_pos h1]
  ·rw [if_neg h1]
   have hr : c ∈ r := (List.mem_cons.1 h).resolve_left (fun e => h1 (.inl (e ▸ ho)))
   by_cases h2 : d = 92
   ·rw [if_pos h2]
    cases he : escI r with
    | none => rfl
    | some y => exact in_bad k _ y.2 c (esc_keep he hr ho) ho
   ·rw [if_neg h2]
    exact in_bad k _ r c hr ho
end Go.Proofs.YtmdmomccibpjbaaGreatDoor.E
namespace Go.Proofs.YtmdmomccibpjbaaGreatDoor.E
open Go Tr
open V (rest rest_cases restL sizeB pk_rest cx_i cp_i extract_list pk hexP)
set_option maxRecDepth 100000
set_option maxHeartbeats 1000000
theorem blanks_nil : ∀ r : Txt,V.blanksM r = [] → ∀ c ∈ r,V.isBl c = true
 | [],_,c,hc => nomatch hc
 | d :: r,h,c,hc => by
  unfold V.blanksM at h
  rw [List.dropWhile_cons] at h
  split at h
  ·rename_i hd
   rcases List.mem_cons.1 hc with rfl | hc
   ·exact hd
   ·exact blanks_nil r h c hc
  ·cases h
theorem parse_text (t1 : Txt) : (∃ b,V.readX (t1.length + 1) [] t1 = .ok (b,[]) ∧ b.length ≤ 24 ∧ ∃ x n,V.parseX (34 :: t1) = .ok (x,n) ∧ x.text.data.toList = b) ∨
  ((∃ e,V.parseX (34 :: t1) = .error e) ∧ ∀ b r,V.readX (t1.length + 1) [] t1 = .ok (b,r) → 24 < b.length ∨ r ≠ []) ∨
  ∃ b r,V.readX (t1.length + 1) [] t1 = .ok (b,r) ∧ r ≠ [] ∧ ∀ c ∈ r,V.isBl c = true := by
 have hbl : V.blanksM (34 :: t1) = 34 :: t1 := rfl
 have hp : V.parseX (34 :: t1) = (match (match V.rtextX (34 :: t1) with
   | .error e => .error e
   | .ok (s,r) => .ok (.mk 2 0 s [],r,0 + 1) : Except V.Flt (VT × Txt × Int)) with
  | .error e => .error e
  | .ok (x,l1,n) => if V.blanksM l1 = [] then .ok (x,n) else .error (28,(V.blanksM l1).length)) := by
  unfold V.parseX
  have hpk : pk (34 :: t1) = 34 := rfl
  rw [hbl,V.rdX_succ,if_neg (by rw [hpk]; decide),if_neg (by decide),if_neg (by rw [hpk]; omega),if_pos hpk]
  rfl
 unfold V.rtextX at hp
 rw [List.tail_cons] at hp
 cases hr : V.readX (t1.length + 1) [] t1 with
 | error e =>
  rw [hr] at hp
  exact .inr (.inl ⟨⟨_,hp⟩,fun b r h => nomatch h⟩)
 | ok y =>
  obtain ⟨b,r⟩ := y
  rw [hr] at hp
  by_cases hb : b.length > 24
  ·have hp : V.parseX (34 :: t1) = (match (match (if b.length > 24 then .error (21,(34 :: t1).length) else .ok (⟨b.toArray⟩,r) : Except V.Flt (ByteArray × Txt)) with
    | .error e => .error e
    | .ok (s,r) => .ok (.mk 2 0 s [],r,0 + 1) : Except V.Flt (VT × Txt × Int)) with
    | .error e => .error e
    | .ok (x,l1,n) => if V.blanksM l1 = [] then .ok (x,n) else .error (28,(V.blanksM l1).length)) := hp
   rw [if_pos hb] at hp
   refine .inr (.inl ⟨⟨_,hp⟩,fun b' r' h => ?_⟩)
   cases h
   exact .inl hb
  ·have hp : V.parseX (34 :: t1) = (match (match (if b.length > 24 then .error (21,(34 :: t1).length) else .ok (⟨b.toArray⟩,r) : Except V.Flt (ByteArray × Txt)) with
    | .error e => .error e
    | .ok (s,r) => .ok (.mk 2 0 s [],r,0 + 1) : Except V.Flt (VT × Txt × Int)) with
    | .error e => .error e
    | .ok (x,l1,n) => if V.blanksM l1 = [] then .ok (x,n) else .error (28,(V.blanksM l1).length)) := hp
   rw [if_neg hb] at hp
   dsimp only at hp
   by_cases hr0 : r = []
   ·subst hr0
    rw [if_pos (show V.blanksM [] = [] from rfl)] at hp
    exact .inl ⟨b,rfl,by omega,_,_,hp,rfl⟩
   ·by_cases hbr : V.blanksM r = []
    ·refine .inr (.inr ⟨b,r,rfl,hr0,?_⟩)
     exact blanks_nil r hbr
    ·rw [if_neg hbr] at hp
     refine .inr (.inl ⟨⟨_,hp⟩,fun b' r' h => ?_⟩)
     cases h
     exact .inr hr0
theorem quo_law (t0 : Txt) : quoB (34 :: t0) = (meantB ((34 :: t0).take (1 + cloB false t0))).map fun t => (t,(34 :: t0).drop (1 + cloB false t0)) := by
 rw [quoB_def,List.tail_cons]
 obtain ⟨t1,ht1⟩ : ∃ t1,t1 = t0.take (cloB false t0) := ⟨_,rfl⟩
 rw [show (34 :: t0).take (1 + cloB false t0) = 34 :: t1 by rw [Nat.add_comm,List.take_succ_cons,ht1]]
 generalize (34 :: t0).drop (1 + cloB false t0) = dr
 have bl34 : V.isBl 34 = false := rfl
 rcases List.eq_nil_or_concat t1 with h0 | ⟨u,z,hu⟩
 ·rw [h0,show meantB [34] = none from rfl]
  rcases parse_text [] with ⟨b,hb,-⟩ | ⟨⟨e,he⟩,-⟩ | ⟨b,r,hb,-⟩
  ·obtain ⟨e,he⟩ := readX_nil 1 []
   rw [List.length_nil] at hb
   rw [show (0 + 1) = 1 from rfl,he] at hb
   cases hb
  ·rw [he]; rfl
  ·obtain ⟨e,he⟩ := readX_nil 1 []
   rw [List.length_nil] at hb
   rw [show (0 + 1) = 1 from rfl,he] at hb
   cases hb
 rw [List.concat_eq_append] at hu
 have hlast : (34 :: t1).getLast? = some z := by rw [hu]; simp [List.getLast?_cons]
 have hlen : t1.length = u.length + 1 := by rw [hu]; simp
 by_cases hz : z = 34
 ·subst hz
  have hm : meantB (34 :: t1) = (match inB (u.length + 2) [] u with
    | none => none
    | some t => if t.length ≤ 24 then some t else none) := by
   unfold meantB
   rw [if_neg (by rw [hlast]; simp [hlen]),List.tail_cons,List.length_cons,hlen,hu,List.dropLast_concat]
   try rfl
  rw [hm]
  by_cases hany : (34 :: t1).any okc = true
  ·rw [if_pos hany]
   obtain ⟨c,hc,ho⟩ := List.any_eq_true.1 hany
   have hcu : c ∈ u := by
    rw [hu] at hc
    rcases List.mem_cons.1 hc with rfl | hc
    ·exact absurd ho (by decide)
    rcases List.mem_append.1 hc with hc | hc
    ·exact hc
    ·rw [List.mem_singleton.1 hc] at ho
     exact absurd ho (by decide)
   rw [in_bad _ _ _ c hcu ho]
   rfl
  ·rw [if_neg hany]
   have hp : ∀ c ∈ u,okc c = false := fun c hc => by
    cases ho : okc c with
    | false => rfl
    | true => exact absurd (List.any_eq_true.2 ⟨c,by rw [hu]; simp [hc],ho⟩) hany
   have hin := in_read (u.length + 2) (t1.length + 1) [] u (by omega) (by omega) hp
   rw [← hu] at hin
   cases hi : inB (u.length + 2) [] u with
   | some b =>
    rw [hi] at hin
    have hin : V.readX (t1.length + 1) [] t1 = .ok (b,[]) := hin
    dsimp only
    rcases parse_text t1 with ⟨b',hb,h24,x,n,hx,hxt⟩ | ⟨⟨e,he⟩,hh⟩ | ⟨b',r,hb,hr,-⟩
    ·rw [hin] at hb; cases hb
     rw [hx,if_pos h24,← hxt]
     rfl
    ·rw [he,if_neg (by rcases hh b [] hin with h | h; · omega
                       ·exact absurd rfl h)]
     rfl
    ·rw [hin] at hb; cases hb
     exact absurd rfl hr
   | none =>
    rw [hi] at hin
    dsimp only
    rcases parse_text t1 with ⟨b',hb,h24,x,n,hx,hxt⟩ | ⟨⟨e,he⟩,hh⟩ | ⟨b',r,hb,hr,hbl⟩
    ·rcases hin with ⟨e,he⟩ | ⟨b,r,he,hl⟩
     ·rw [hb] at he; cases he
     ·rw [hb] at he; cases he; cases hl
    ·rw [he]; rfl
    ·rcases hin with ⟨e,he⟩ | ⟨b,r,he,hl⟩
     ·rw [hb] at he; cases he
     ·rw [hb] at he; cases he
      have := hbl 34 (List.mem_of_getLast? hl)
      rw [bl34] at this
      cases this
 ·rw [show meantB (34 :: t1) = none by unfold meantB; rw [if_pos (.inr (by rw [hlast]; simpa using hz))]]
  by_cases hany : (34 :: t1).any okc = true
  ·rw [if_pos hany]; rfl
  ·rw [if_neg hany]
   have hp : ∀ c ∈ t1,okc c = false := fun c hc => by
    cases ho : okc c with
    | false => rfl
    | true => exact absurd (List.any_eq_true.2 ⟨c,by simp [hc],ho⟩) hany
   have hop : cloB false t0 = t0.length := clo_open false t0 (by rw [← ht1,hu]; simpa using hz)
   have htt : t1 = t0 := by rw [ht1,hop,List.take_length]
   rw [← htt] at hop
   have bad : ∀ b r,V.readX (t1.length + 1) [] t1 ≠ .ok (b,r) := by
    intro b r h
    obtain ⟨q,hq,hcl⟩ := read_pos _ _ _ _ _ hp h
    rw [hop] at hcl
    have hr : r = [] := by
     have := congrArg List.length hq
     rw [List.length_append,List.length_cons,hcl] at this
     exact List.eq_nil_of_length_eq_zero (by omega)
    rw [hr,hu] at hq
    have := congrArg List.getLast? hq
    simp at this
    exact hz this
   rcases parse_text t1 with ⟨b',hb,-⟩ | ⟨⟨e,he⟩,-⟩ | ⟨b',r,hb,-⟩
   ·exact absurd hb (bad _ _)
   ·rw [he]; rfl
   ·exact absurd hb (bad _ _)
end Go.Proofs.YtmdmomccibpjbaaGreatDoor.E
namespace Go.Proofs.YtmdmomccibpjbaaGreatDoor.E
open Go Tr
open V (rest rest_cases restL sizeB pk_rest cx_i cp_i extract_list pk hexP)
set_option maxRecDepth 100000
set_option maxHeartbeats 2000000
/-! the tree of function 75 -/
abbrev fx75_1 (qx0 : Int) : List (Tmp × Value) := [(0,.int .u8 qx0)]
abbrev mx75_1 : List (Tmp × Comp) := [(3,.leaf .bool)]
def s75_1 : Script := .sym (.lit (.lit .nil)) (.lit (.lit .nil))
theorem t75_1 (qx0 : Int) (gg1 : Nat → Value) : pieceT Tryz.prog (at_ Tryz.f75 [1,0,0,0]) 35 (fx75_1 qx0) gg1 (mx75_1.map (·.1)) [] [] s75_1 = .br (Decidable.decide (qx0 ≥ 48)) (.fin .normal [(3,.bool (Decidable.decide (qx0 ≤ 57)))]) (.fin .normal [(3,.bool false)]) := by kernel_rfl
abbrev fx75_3 (qx0 : Int) : List (Tmp × Value) := [(0,.int .u8 qx0)]
abbrev mx75_3 : List (Tmp × Comp) := [(13,.leaf .bool)]
def s75_3 : Script := .sym (.lit (.lit .nil)) (.lit (.lit .nil))
theorem t75_3 (qx0 : Int) (gg3 : Nat → Value) : pieceT Tryz.prog (at_ Tryz.f75 [1,0,0,1,1,0]) 35 (fx75_3 qx0) gg3 (mx75_3.map (·.1)) [] [] s75_3 = .br (Decidable.decide (qx0 ≥ 97)) (.fin .normal [(13,.bool (Decidable.decide (qx0 ≤ 102)))]) (.fin .normal [(13,.bool false)]) := by kernel_rfl
def s75 : Script := .ct 2 [0] mx75_1 (.sym .nil (.ct 0 [0] mx75_3 (.sym .nil (.sym (.lit (.lit (.sym .nil .nil))) (.lit (.lit (.lit .nil)))))))
theorem t75 (qx0 : Int) : fnT Tryz.prog Tryz.f75 #[.int .u8 qx0] s75 = .cut (at_ Tryz.f75 [1,0,0,0]) 35 (fx75_1 qx0) mx75_1 (fun u2 g2 => .br u2.1 (.done (.returned (.int .i64 (IntKind.i64.wrap (IntKind.u8.wrap (qx0 - 48)))))) (.cut (at_ Tryz.f75 [1,0,0,1,1,0]) 35 (fx75_3 qx0) mx75_3 (fun u4 g4 => .br u4.1 (.done (.returned (.int .i64 (IntKind.i64.wrap (IntKind.i64.wrap (IntKind.u8.wrap (qx0 - 97)) + 10))))) (.br (Decidable.decide (qx0 ≥ 65)) (.br (Decidable.decide (qx0 ≤ 70)) (.done (.returned (.int .i64 (IntKind.i64.wrap (IntKind.i64.wrap (IntKind.u8.wrap (qx0 - 65)) + 10))))) (.done (.returned (.int .i64 (-1))))) (.done (.returned (.int .i64 (-1)))))))) := by kernel_rfl
def hexI3 (c : UInt8) : Int := match hexP c.toNat with
 | some x => (x : Nat)
 | none => -1
theorem hex3_any (w : World) (c : UInt8) : Calls Tryz.prog 75 #[.int .u8 (c.toNat : Nat)] w fun e w' => w' = w ∧ e = .returned (.int .i64 (hexI3 c)) := by
 refine calls_of_fnT mixed Tryz.func75 (s := s75) ?_
 rw [t75]
 have hc := c.toNat_lt
 refine cut_i mixed s75_1 (fun (v : Bool × Unit) w' => w' = w ∧ v.1 = decide (48 ≤ c.toNat ∧ c.toNat ≤ 57)) (by kernel_rfl) (fun g => ?_) ?_
 ·rw [t75_1]
  refine br_both (fun e => ⟨rfl,(_,()),rfl,rfl,?_⟩) fun e => ⟨rfl,(_,()),rfl,rfl,?_⟩
  ·have e := ge_t e
   exact decide_eq_decide.2 ⟨fun h => ⟨by omega,by omega⟩,fun h => by omega⟩
  ·have e := ge_f e
   exact (decide_eq_false (by omega)).symm
 rintro ⟨u,⟨⟩⟩ g w2 ⟨rfl,hu⟩
 dsimp only at hu
 subst hu
 refine br_both (fun e => ?_) fun e => ?_
 ·have e := of_decide_eq_true (show decide (48 ≤ c.toNat ∧ c.toNat ≤ 57) = true from e)
  refine ⟨rfl,?_⟩
  unfold hexI3 V.hexP
  rw [if_pos e]
  rw [show IntKind.u8.wrap ((c.toNat : Int) - 48) = ((c.toNat - 48 : Nat) : Int) by rw [IntKind.wrap_u8']; omega,wrap_in (by omega) (by omega)]
 have e1 := of_decide_eq_false (show decide (48 ≤ c.toNat ∧ c.toNat ≤ 57) = false from e)
 refine cut_i mixed s75_3 (fun (v : Bool × Unit) w' => w' = w2 ∧ v.1 = decide (97 ≤ c.toNat ∧ c.toNat ≤ 102)) (by kernel_rfl) (fun g => ?_) ?_
 ·rw [t75_3]
  refine br_both (fun e => ⟨rfl,(_,()),rfl,rfl,?_⟩) fun e => ⟨rfl,(_,()),rfl,rfl,?_⟩
  ·have e := ge_t e
   exact decide_eq_decide.2 ⟨fun h => ⟨by omega,by omega⟩,fun h => by omega⟩
  ·have e := ge_f e
   exact (decide_eq_false (by omega)).symm
 rintro ⟨u,⟨⟩⟩ g w3 ⟨rfl,hu⟩
 dsimp only at hu
 subst hu
 refine br_both (fun e => ?_) fun e => ?_
 ·have e := of_decide_eq_true (show decide (97 ≤ c.toNat ∧ c.toNat ≤ 102) = true from e)
  refine ⟨rfl,?_⟩
  unfold hexI3 V.hexP
  rw [if_neg e1,if_pos e]
  rw [show IntKind.u8.wrap ((c.toNat : Int) - 97) = ((c.toNat - 97 : Nat) : Int) by rw [IntKind.wrap_u8']; omega,wrap_in (x := ((c.toNat - 97 : Nat) : Int)) (by omega) (by omega),wrap_in (by omega) (by omega)]
  congr 2
  show _ = ((c.toNat - 87 : Nat) : Int)
  omega
 have e2 := of_decide_eq_false (show decide (97 ≤ c.toNat ∧ c.toNat ≤ 102) = false from e)
 have no : ¬ (65 ≤ c.toNat ∧ c.toNat ≤ 70) → hexI3 c = -1 := fun h => by
  unfold hexI3 V.hexP
  rw [if_neg e1,if_neg e2,if_neg h]
 refine br_both (fun e => br_both (fun e' => ?_) fun e' => ⟨rfl,?_⟩) fun e => ⟨rfl,?_⟩
 ·have e := ge_t e
  have e' := le_t e'
  refine ⟨rfl,?_⟩
  unfold hexI3 V.hexP
  rw [if_neg e1,if_neg e2,if_pos (by omega)]
  rw [show IntKind.u8.wrap ((c.toNat : Int) - 65) = ((c.toNat - 65 : Nat) : Int) by rw [IntKind.wrap_u8']; omega,wrap_in (x := ((c.toNat - 65 : Nat) : Int)) (by omega) (by omega),wrap_in (by omega) (by omega)]
  congr 2
  show _ = ((c.toNat - 55 : Nat) : Int)
  omega
 ·have e' := of_decide_eq_false e'
  rw [no (by omega)]
 ·have e := ge_f e
  rw [no (by omega)]
end Go.Proofs.YtmdmomccibpjbaaGreatDoor.E
