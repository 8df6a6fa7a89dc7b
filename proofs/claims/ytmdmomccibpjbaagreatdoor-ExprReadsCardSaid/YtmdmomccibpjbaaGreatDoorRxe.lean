/- The document's reader: a token where an operand is wanted. -/
import Derived.Test.YtmdmomccibpjbaaGreatDoorRxd
namespace Go.Proofs.YtmdmomccibpjbaaGreatDoor.E
open Go Tr
open V (rest rest_cases restL sizeB pk_rest cx_i cp_i extract_list pk hexP)
set_option maxRecDepth 100000
set_option maxHeartbeats 4000000
/-! the tree of function 24 -/
abbrev fx24_4 (qa0 : Addr) (n1 : Nat) : List (Tmp × Value) := [(0,.pointer (some qa0)),(3,.pointer (some ⟨n1,0,none⟩))]
abbrev mx24_4 : List (Tmp × Comp) := []
def s24_4 : Script := .hd0 (.hq 0 (.hq 1 (.hq 2 (.hq 3 (.hq 5 (.hq 6 (.ld (.int .i64) (.hq 7 (.hl 4 (.ld .sl (.he 8 (.he 9 (.rn (.one (.leaf .sl)) (.hq 10 (.hq 11 (.he 12 .nil))))))) (.hl 8 (.he 4 (.ld .sl (.he 9 (.rn (.one (.leaf .sl)) (.hq 10 (.hq 11 (.he 12 .nil))))))) .nil))))))))))
theorem t24_4 (qa0 : Addr) (n1 : Nat) (gg4 : Nat → Value) : pieceT Tryz.prog (at_ Tryz.f24 [1,1,0,0,1,0,0]) 144 (fx24_4 qa0 n1) gg4 (mx24_4.map (·.1)) [] [] s24_4 = .hdrawn (.load ⟨n1,2,none⟩ (.int .i64) (fun x5 => .both (.eff (.load (qa0.add 2) .sl (fun l6 => .back (.eff (.new (.cells #[.string (bytesL [110,117,109]),.int .i64 0,.int .i64 x5,.string (bytesL [])] 123 (0,0)) (fun n7 => .back (.eff (.run (builtin .append #[39,39] 39 #[false,false] #[.slice l6.1 l6.2.1 l6.2.2,.slice (some ⟨n7,0,none⟩) 1 1]) (.one (.leaf .sl)) (fun l8 => .back (.eff (.store (qa0.add 2) (.slice l8.1 l8.2.1 l8.2.2) (.back (.undrawn (.fin .normal [])))))))))))))) (.both (.eff (.new (.cells #[.string (bytesL [110,117,109]),.int .i64 0,.int .i64 x5,.string (bytesL [])] 123 (0,0)) (fun n9 => .back (.eff (.load (qa0.add 2) .sl (fun l10 => .back (.eff (.run (builtin .append #[39,39] 39 #[false,false] #[.slice l10.1 l10.2.1 l10.2.2,.slice (some ⟨n9,0,none⟩) 1 1]) (.one (.leaf .sl)) (fun l11 => .back (.eff (.store (qa0.add 2) (.slice l11.1 l11.2.1 l11.2.2) (.back (.undrawn (.fin .normal [])))))))))))))) (.triv)))) := by kernel_rfl
abbrev fx24_14 (qa0 : Addr) (n1 : Nat) : List (Tmp × Value) := [(0,.pointer (some qa0)),(3,.pointer (some ⟨n1,0,none⟩))]
abbrev mx24_14 : List (Tmp × Comp) := []
def s24_14 : Script := .hd0 (.hq 0 (.hq 1 (.hq 2 (.hq 3 (.hq 5 (.hq 6 (.ld .str (.hq 7 (.hl 4 (.ld .sl (.he 8 (.he 9 (.rn (.one (.leaf .sl)) (.hq 10 (.hq 11 (.he 12 .nil))))))) (.hl 8 (.he 4 (.ld .sl (.he 9 (.rn (.one (.leaf .sl)) (.hq 10 (.hq 11 (.he 12 .nil))))))) .nil))))))))))
theorem t24_14 (qa0 : Addr) (n1 : Nat) (gg14 : Nat → Value) : pieceT Tryz.prog (at_ Tryz.f24 [1,1,0,0,1,1,1,0,0]) 144 (fx24_14 qa0 n1) gg14 (mx24_14.map (·.1)) [] [] s24_14 = .hdrawn (.load ⟨n1,3,none⟩ .str (fun s15 => .both (.eff (.load (qa0.add 2) .sl (fun l16 => .back (.eff (.new (.cells #[.string (bytesL [116,101,120,116,33]),.int .i64 0,.int .i64 0,.string s15] 123 (0,0)) (fun n17 => .back (.eff (.run (builtin .append #[39,39] 39 #[false,false] #[.slice l16.1 l16.2.1 l16.2.2,.slice (some ⟨n17,0,none⟩) 1 1]) (.one (.leaf .sl)) (fun l18 => .back (.eff (.store (qa0.add 2) (.slice l18.1 l18.2.1 l18.2.2) (.back (.undrawn (.fin .normal [])))))))))))))) (.both (.eff (.new (.cells #[.string (bytesL [116,101,120,116,33]),.int .i64 0,.int .i64 0,.string s15] 123 (0,0)) (fun n19 => .back (.eff (.load (qa0.add 2) .sl (fun l20 => .back (.eff (.run (builtin .append #[39,39] 39 #[false,false] #[.slice l20.1 l20.2.1 l20.2.2,.slice (some ⟨n19,0,none⟩) 1 1]) (.one (.leaf .sl)) (fun l21 => .back (.eff (.store (qa0.add 2) (.slice l21.1 l21.2.1 l21.2.2) (.back (.undrawn (.fin .normal [])))))))))))))) (.triv)))) := by kernel_rfl
abbrev fx24_23 (qa0 : Addr) (n1 : Nat) (x2 : Int) : List (Tmp × Value) := [(0,.pointer (some qa0)),(3,.pointer (some ⟨n1,0,none⟩)),(6,.int .i64 x2)]
abbrev mx24_23 : List (Tmp × Comp) := [(43,.leaf .bool)]
def s24_23 : Script := .ld (.int .u8) (.sym (.lit (.ld .str (.lit (.lit .nil)))) (.lit (.lit (.lit .nil))))
theorem t24_23 (qa0 : Addr) (n1 : Nat) (x2 : Int) (gg23 : Nat → Value) : pieceT Tryz.prog (at_ Tryz.f24 [1,1,0,0,1,1,1,1,0]) 144 (fx24_23 qa0 n1 x2) gg23 (mx24_23.map (·.1)) [] [] s24_23 = .load ⟨n1,0,none⟩ (.int .u8) (fun x24 => .br (x24 == 115) (.load ⟨n1,3,none⟩ .str (fun s25 => .fin .normal [(43,.bool (s25.toList == (bytesL [45]).toList))])) (.fin .normal [(43,.bool false)])) := by kernel_rfl
abbrev fx24_28 (qa0 : Addr) (n1 : Nat) (x2 : Int) : List (Tmp × Value) := [(0,.pointer (some qa0)),(3,.pointer (some ⟨n1,0,none⟩)),(6,.int .i64 x2)]
abbrev mx24_28 : List (Tmp × Comp) := [(54,.leaf .bool)]
def s24_28 : Script := .ld (.int .u8) (.sym (.lit (.ld .str (.lit (.lit (.sym (.lit (.lit (.lit (.lit (.lit .nil))))) (.lit (.ld .str (.lit (.lit (.lit (.lit .nil))))))))))) (.lit (.lit (.lit (.lit (.lit .nil))))))
theorem t24_28 (qa0 : Addr) (n1 : Nat) (x2 : Int) (gg28 : Nat → Value) : pieceT Tryz.prog (at_ Tryz.f24 [1,1,0,0,1,1,1,1,1,1,0]) 144 (fx24_28 qa0 n1 x2) gg28 (mx24_28.map (·.1)) [] [] s24_28 = .load ⟨n1,0,none⟩ (.int .u8) (fun x29 => .br (x29 == 115) (.load ⟨n1,3,none⟩ .str (fun s30 => .br (s30.toList == (bytesL [40]).toList) (.fin .normal [(54,.bool true)]) (.load ⟨n1,3,none⟩ .str (fun s31 => .fin .normal [(54,.bool (s31.toList == (bytesL [91]).toList))])))) (.fin .normal [(54,.bool false)])) := by kernel_rfl
abbrev fx24_35 (qa0 : Addr) (n1 : Nat) (x2 : Int) : List (Tmp × Value) := [(0,.pointer (some qa0)),(3,.pointer (some ⟨n1,0,none⟩)),(6,.int .i64 x2)]
abbrev mx24_35 : List (Tmp × Comp) := [(73,.leaf .bool)]
def s24_35 : Script := .ld (.int .u8) (.sym (.lit (.ld .str (.lit (.lit .nil)))) (.lit (.lit (.lit .nil))))
theorem t24_35 (qa0 : Addr) (n1 : Nat) (x2 : Int) (gg35 : Nat → Value) : pieceT Tryz.prog (at_ Tryz.f24 [1,1,0,0,1,1,1,1,1,1,1,1,0]) 144 (fx24_35 qa0 n1 x2) gg35 (mx24_35.map (·.1)) [] [] s24_35 = .load ⟨n1,0,none⟩ (.int .u8) (fun x36 => .br (x36 == 115) (.load ⟨n1,3,none⟩ .str (fun s37 => .fin .normal [(73,.bool (s37.toList == (bytesL [93]).toList))])) (.fin .normal [(73,.bool false)])) := by kernel_rfl
abbrev fx24_41 (qa0 : Addr) (n40 : Nat) : List (Tmp × Value) := [(0,.pointer (some qa0)),(8,.pointer (some ⟨n40,0,none⟩))]
abbrev mx24_41 : List (Tmp × Comp) := [(96,.leaf .bool)]
def s24_41 : Script := .ld .str (.sym (.lit (.lit (.lit (.lit (.lit (.lit (.lit .nil))))))) (.lit (.ld (.int .i64) (.lit (.lit (.sym (.lit (.lit (.lit .nil))) (.lit (.ld (.int .i64) (.lit (.lit .nil))))))))))
theorem t24_41 (qa0 : Addr) (n40 : Nat) (gg41 : Nat → Value) : pieceT Tryz.prog (at_ Tryz.f24 [1,1,0,0,1,1,1,1,1,1,1,1,1,0,1,0,0]) 144 (fx24_41 qa0 n40) gg41 (mx24_41.map (·.1)) [] [] s24_41 = .load ⟨n40,0,none⟩ .str (fun s42 => .br (!s42.toList == (bytesL [91]).toList) (.fin .normal [(96,.bool true)]) (.load ⟨n40,1,none⟩ (.int .i64) (fun x43 => .br (Decidable.decide (x43 ≥ 0)) (.fin .normal [(96,.bool true)]) (.load ⟨n40,2,none⟩ (.int .i64) (fun x44 => .fin .normal [(96,.bool (Decidable.decide (x44 > 0)))]))))) := by kernel_rfl
abbrev fx24_51 (qa0 : Addr) (n1 : Nat) (x2 : Int) (s50 : ByteArray) : List (Tmp × Value) := [(0,.pointer (some qa0)),(3,.pointer (some ⟨n1,0,none⟩)),(6,.int .i64 x2),(113,.string s50)]
abbrev mx24_51 : List (Tmp × Comp) := [(114,.leaf .bool)]
def s24_51 : Script := .sym .nil (.sym .nil (.sym .nil (.sym .nil .nil)))
theorem t24_51 (qa0 : Addr) (n1 : Nat) (x2 : Int) (s50 : ByteArray) (gg51 : Nat → Value) : pieceT Tryz.prog (at_ Tryz.f24 [1,1,1,0,1,0,0]) 144 (fx24_51 qa0 n1 x2 s50) gg51 (mx24_51.map (·.1)) [] [] s24_51 = .br (s50.toList == (bytesL [107,101,121]).toList) (.fin .normal [(114,.bool true)]) (.br (s50.toList == (bytesL [118,97,108]).toList) (.fin .normal [(114,.bool true)]) (.br (s50.toList == (bytesL [97,99,99]).toList) (.fin .normal [(114,.bool true)]) (.br (s50.toList == (bytesL [104,111,112,115]).toList) (.fin .normal [(114,.bool true)]) (.fin .normal [(114,.bool (s50.toList == (bytesL [110,111,110,101]).toList))])))) := by kernel_rfl
def s24 : Script := .cl (.one (.leaf (.int .i64))) (.ld (.int .u8) (.sym (.ct 0 [0,3] mx24_4 .nil) (.ld (.int .u8) (.sym (.ct 0 [0,3] mx24_14 .nil) (.ct 0 [0,3,6] mx24_23 (.sym (.cl (.tup []) .nil) (.ct 0 [0,3,6] mx24_28 (.sym (.ld .str (.cl (.one (.leaf (.int .i64))) .nil)) (.ct 0 [0,3,6] mx24_35 (.sym (.cl (.one (.agg [.str,.int .i64,.int .i64])) (.ct 1 [0,8] mx24_41 (.sym .nil (.cl (.tup []) (.cl (.tup []) (.ld (.int .i64) .nil)))))) (.ld (.int .u8) (.sym .nil (.ld .str (.ct 0 [0,3,6,113] mx24_51 (.sym (.ld .str (.cl (.tup []) .nil)) (.sym (.sym .nil (.cl (.tup []) .nil)) (.sym (.sym .nil (.cl (.tup []) .nil)) (.ld .str (.cl (.one (.leaf (.int .i64))) (.sym .nil (.ld .str (.cl (.one (.leaf (.int .i64))) .nil))))))))))))))))))))))
theorem t24 (qa0 : Addr) (qx1_0 : Int) (qx1_1 : Int) (qx1_2 : Int) (qs1_3 : ByteArray) : fnT Tryz.prog Tryz.f24 #[.pointer (some qa0),.agg #[.int .u8 qx1_0,.int .i64 qx1_1,.int .i64 qx1_2,.string qs1_3]] s24 = .new (.cells #[.int .u8 qx1_0,.int .i64 qx1_1,.int .i64 qx1_2,.string qs1_3] 64 (0,0)) (fun n1 => .call 53 #[.pointer (some qa0)] (.one (.leaf (.int .i64))) (fun x2 => .load ⟨n1,0,none⟩ (.int .u8) (fun x3 => .br (x3 == 110) (.cut (at_ Tryz.f24 [1,1,0,0,1,0,0]) 144 (fx24_4 qa0 n1) mx24_4 (fun u12 g12 => .done (.returned (.tuple #[.int .i64 0,.bool false])))) (.load ⟨n1,0,none⟩ (.int .u8) (fun x13 => .br (x13 == 116) (.cut (at_ Tryz.f24 [1,1,0,0,1,1,1,0,0]) 144 (fx24_14 qa0 n1) mx24_14 (fun u22 g22 => .done (.returned (.tuple #[.int .i64 0,.bool false])))) (.cut (at_ Tryz.f24 [1,1,0,0,1,1,1,1,0]) 144 (fx24_23 qa0 n1 x2) mx24_23 (fun u26 g26 => .br u26.1 (.call 54 #[.pointer (some qa0),.string (bytesL [110,101,103]),.int .i64 7] (.tup []) (fun r27 => .done (.returned (.tuple #[.int .i64 0,.bool true])))) (.cut (at_ Tryz.f24 [1,1,0,0,1,1,1,1,1,1,0]) 144 (fx24_28 qa0 n1 x2) mx24_28 (fun u32 g32 => .br u32.1 (.load ⟨n1,3,none⟩ .str (fun s33 => .call 55 #[.pointer (some qa0),.string s33] (.one (.leaf (.int .i64))) (fun x34 => .done (.returned (.tuple #[.int .i64 x34,.bool true]))))) (.cut (at_ Tryz.f24 [1,1,0,0,1,1,1,1,1,1,1,1,0]) 144 (fx24_35 qa0 n1 x2) mx24_35 (fun u38 g38 => .br u38.1 (.call 50 #[.pointer (some qa0)] (.one (.agg [.str,.int .i64,.int .i64])) (fun r39 => .new (.cells #[.string (bytesL []),.int .i64 0,.int .i64 0] 68 (0,0)) (fun n40 => .store ⟨n40,0,none⟩ (.string r39.1) (.store ⟨n40,1,none⟩ (.int .i64 r39.2.1) (.store ⟨n40,2,none⟩ (.int .i64 r39.2.2.1) (.cut (at_ Tryz.f24 [1,1,0,0,1,1,1,1,1,1,1,1,1,0,1,0,0]) 144 (fx24_41 qa0 n40) mx24_41 (fun u45 g45 => .br u45.1 (.done (.returned (.tuple #[.int .i64 36,.bool true]))) (.call 51 #[.pointer (some qa0),.string (bytesL [108,105,115,116]),.int .i64 0] (.tup []) (fun r46 => .call 52 #[.pointer (some qa0)] (.tup []) (fun r47 => .load (qa0.add 4) (.int .i64) (fun x48 => .store (qa0.add 4) (.int .i64 (IntKind.i64.wrap (x48 - 1))) (.done (.returned (.tuple #[.int .i64 0,.bool false])))))))))))))) (.load ⟨n1,0,none⟩ (.int .u8) (fun x49 => .br (x49 != 119) (.done (.returned (.tuple #[.int .i64 36,.bool true]))) (.load ⟨n1,3,none⟩ .str (fun s50 => .cut (at_ Tryz.f24 [1,1,1,0,1,0,0]) 144 (fx24_51 qa0 n1 x2 s50) mx24_51 (fun u52 g52 => .br u52.1 (.load ⟨n1,3,none⟩ .str (fun s53 => .call 51 #[.pointer (some qa0),.string s53,.int .i64 0] (.tup []) (fun r54 => .done (.returned (.tuple #[.int .i64 0,.bool false]))))) (.br (s50.toList == (bytesL [105,102]).toList) (.br (Decidable.decide (x2 > 0)) (.done (.returned (.tuple #[.int .i64 36,.bool true]))) (.call 54 #[.pointer (some qa0),.string (bytesL [105,102]),.int .i64 (-1)] (.tup []) (fun r55 => .done (.returned (.tuple #[.int .i64 0,.bool true]))))) (.br (s50.toList == (bytesL [110,111,116]).toList) (.br (Decidable.decide (x2 > 3)) (.done (.returned (.tuple #[.int .i64 36,.bool true]))) (.call 54 #[.pointer (some qa0),.string (bytesL [110,111,116]),.int .i64 3] (.tup []) (fun r56 => .done (.returned (.tuple #[.int .i64 0,.bool true]))))) (.load ⟨n1,3,none⟩ .str (fun s57 => .call 23 #[.string s57] (.one (.leaf (.int .i64))) (fun x58 => .br (x58 == 0) (.done (.returned (.tuple #[.int .i64 36,.bool true]))) (.load ⟨n1,3,none⟩ .str (fun s59 => .call 56 #[.pointer (some qa0),.string s59] (.one (.leaf (.int .i64))) (fun x60 => .done (.returned (.tuple #[.int .i64 x60,.bool true])))))))))))))))))))))))))) := by kernel_rfl
abbrev tStepS : TypeId := 39
/-- A step is laid behind the others, in whatever order. -/
theorem emit_held {R : Ending → World → Prop} {Q : Exit → List (Tmp × Value) → World → Prop} {w0 w : World} {B : Nat → Prop} {base b : Nat} {s : ByteArray} {i : Nat} {σ : List OM} {ω : List SM} {d : Nat} {K : T} {n1 : Nat} {vs : List Value}
  (x : SM) (h : Rd B base w b s i σ ω d) (hn : Blk w n1 vs tTok3) (hnB : ¬ B n1) (h0 : Turn B B w0 w) (hcap : σ.length + ω.length < 1000)
  (hk : ∀ w' B',Turn B B' w0 w' → Rd B' base w' b s i σ (ω ++ [x]) d → wpT Tryz.prog R Q K .pl w') :
  wpT Tryz.prog R Q (.both
    (.eff
     (.load ⟨b,2,none⟩ .sl (fun l6 =>
      .back
       (.eff
        (.new (.cells (cellsS x).toArray tStep3 (0,0)) (fun n7 =>
         .back
          (.eff
           (.run (builtin .append #[tStepS,tStepS] tStepS #[false,false] #[.slice l6.1 l6.2.1 l6.2.2,.slice (some ⟨n7,0,none⟩) 1 1]) (.one (.leaf .sl)) (fun l8 =>
            .back
             (.eff
              (.store ⟨b,2,none⟩ (.slice l8.1 l8.2.1 l8.2.2)
               (.back
                (.undrawn K)))))))))))))
    (.both
     (.eff
      (.new (.cells (cellsS x).toArray tStep3 (0,0)) (fun n9 =>
       .back
        (.eff
         (.load ⟨b,2,none⟩ .sl (fun l10 =>
          .back
           (.eff
            (.run (builtin .append #[tStepS,tStepS] tStepS #[false,false] #[.slice l10.1 l10.2.1 l10.2.2,.slice (some ⟨n9,0,none⟩) 1 1]) (.one (.leaf .sl)) (fun l11 =>
             .back
              (.eff
               (.store ⟨b,2,none⟩ (.slice l11.1 l11.2.1 l11.2.2)
                (.back
                 (.undrawn K)))))))))))))
     (.triv))) (.he (fun w' => Blk w' n1 vs tTok3)) w := by
 obtain ⟨pS,nS,cS,pO,nO,cO,hS,hO,hb,rS,rO⟩ := h.mem
 have hl := rS.len
 rw [cellsS_len] at hl
 have hbase : base ≤ w.heap.size := by have := h.bnd b h.own; omega
 have stp : ∀ (w1 : World) (n7 : Nat),Ch No w w1 → w.heap.size ≤ n7 → Blk w1 n7 (cellsS x) tStep3 → wpT Tryz.prog R Q (.run (builtin .append #[tStepS,tStepS] tStepS #[false,false] #[.slice pS nS cS,.slice (some ⟨n7,0,none⟩) 1 1]) (.one (.leaf .sl)) (fun l8 =>
   .back (.eff (.store ⟨b,2,none⟩ (.slice l8.1 l8.2.1 l8.2.2) (.back (.undrawn K)))))) (.ef (fun w' => Blk w' n1 vs tTok3)) w1 := by
  intro w1 n7 h1 hn7 b7
  have hb1 : RB w1 b s i (.slice pS nS cS) (.slice pO nO cO) d := Blk.ch hb h1 (fun h => h)
  have rO1 := rO.no h1
  have rS1 := rS.no h1
  have hz1 := h1.size
  refine ap_blk (by kernel_rfl) infoStep rfl (by omega) rS1 (by omega) b7 (by rfl) (cellsS_one x) (by unfold maxLen; omega) (by omega) fun q' c' w2 g2 => ?_
  have hn2 : Blk w2 n1 vs tTok3 := (hn.ch h1 (fun h => h)).ch g2.ch (fun hk => hnB (hS _ hk))
  refine bk hn2 (eff_i ?_)
  have hb2 := g2.blk rS1 hb1 (by decide)
  refine st_blk hb2 (by simp) rfl fun w3 h3 z3 b3 => bk (hn2.ch h3 (fun e : n1 = b => hnB (by rw [e]; exact h.own))) (un_h ?_)
  have b3' : RB w3 b s i (.slice q' (nS + 1) c') (.slice pO nO cO) d := b3
  have r3 : Row w3 base tStep3 4 q' (nS + 1) c' ((ω ++ [x]).flatMap cellsS) := by
   have r3 := g2.own.ch h3 (fun k hk e => g2.own.ne hb2 (by decide) (by rw [← e]; exact hk))
   rw [List.flatMap_append]
   simpa using r3
  have r4 : Row w3 base tOpen3 3 pO nO cO (σ.reverse.flatMap cellsO) := by
   have r2 : Row w2 base tOpen3 3 pO nO cO (σ.reverse.flatMap cellsO) := rO1.ch g2.ch (fun k hk => rO1.apart rS1 (by decide) k hk)
   exact r2.ch h3 (fun k hk e => r2.ne hb2 (by decide) (by rw [← e]; exact hk))
  have hz2 := g2.ch.size
  have hz3 := h3.size
  have T3 : Turn B (fun k => B k ∨ rowS q' (nS + 1) c' k) w w3 := by
   refine ⟨(h1.no.trans (g2.ch.mono fun k hk => hS k hk)).trans (h3.mono fun k (e : k = b) => by rw [e]; exact h.own),?_⟩
   rintro k (hk | hk)
   ·exact .inl hk
   ·rcases g2.lies k hk with h' | h'
    ·exact .inl (hS k h')
    ·exact .inr (by omega)
  refine hk w3 _ (h0.trans T3) ⟨.inl h.own,?_,q',nS + 1,c',pO,nO,cO,fun k hk => .inr hk,fun k hk => .inl (hO k hk),b3',r3,r4⟩
  rintro k (hk | hk)
  ·exact ⟨(h.bnd k hk).1,by have := (h.bnd k hk).2; omega⟩
  ·have := g2.own.lt hk
   exact ⟨this.1,by omega⟩
 refine ⟨?_,?_,trivial⟩
 ·refine eff_i (ld_sl (Blk.cell hb 2) (bk hn (eff_i (nw fun w1 h1 z1 b1 => bk (hn.ch h1 (fun h => h)) (eff_i ?_)))))
  exact stp w1 _ h1 (Nat.le_refl _) b1
 ·refine eff_i (nw fun w1 h1 z1 b1 => bk (hn.ch h1 (fun h => h)) (eff_i (ld_sl ((Blk.ch hb h1 (fun h => h)).cell 2) (bk (hn.ch h1 (fun h => h)) (eff_i ?_)))))
  exact stp w1 _ h1 (Nat.le_refl _) b1
def isCall (t : Tk) : Bool := decide (t.kind = 2) && (findB t.text).isSome
theorem kd_1 (k : Nat) : kd3 k = 110 ↔ k = 1 := by
 unfold kd3
 by_cases h1 : k = 1
 ·rw [if_pos h1]; omega
 by_cases h2 : k = 2
 ·rw [if_neg h1,if_pos h2]; omega
 by_cases h3 : k = 3
 ·rw [if_neg h1,if_neg h2,if_pos h3]; omega
 by_cases h4 : k = 4
 ·rw [if_neg h1,if_neg h2,if_neg h3,if_pos h4]; omega
 ·rw [if_neg h1,if_neg h2,if_neg h3,if_neg h4]; omega
theorem kd_3 (k : Nat) : kd3 k = 116 ↔ k = 3 := by
 unfold kd3
 by_cases h1 : k = 1
 ·rw [if_pos h1]; omega
 by_cases h2 : k = 2
 ·rw [if_neg h1,if_pos h2]; omega
 by_cases h3 : k = 3
 ·rw [if_neg h1,if_neg h2,if_pos h3]; omega
 by_cases h4 : k = 4
 ·rw [if_neg h1,if_neg h2,if_neg h3,if_pos h4]; omega
 ·rw [if_neg h1,if_neg h2,if_neg h3,if_neg h4]; omega
theorem call_no {t : Tk} (h : t.kind ≠ 2 ∨ findB t.text = none) : isCall t = false := by
 unfold isCall
 rcases h with h | h
 ·rw [decide_eq_false h,Bool.false_and]
 ·rw [h]; cases decide (t.kind = 2) <;> rfl
section
variable {B B1 : Nat → Prop} {base : Nat} {w w1 : World} {b : Nat} {s : ByteArray} {i m : Nat} {t : Tk} {wn : Bool}
theorem post_er (T : Turn B B1 w w1) (h : isCall t = false) (c : Nat) (hc : c ≠ 0) : PostM B base b s i m (isCall t) t w (.error (c,t.at_)) (.returned (.tuple #[.int .i64 (c : Nat),.bool wn])) w1 :=
 ⟨B1,T,⟨wn,rfl⟩,hc,by rw [h]; rfl⟩
end
theorem operand_any (w : World) (B : Nat → Prop) (base b : Nat) (s : ByteArray) (i : Nat) (σ : List OM) (ω : List SM) (d : Nat) (t : Tk) (h : Rd B base w b s i σ ω d) (hi : i ≤ s.size) (hs : s.size ≤ 100) (hok : OkO σ d) (hcap : σ.length + ω.length < 800) (hk0 : t.kind ≠ 0) (hk4 : t.kind ≤ 4) :
  Calls Tryz.prog 24 #[.pointer (some ⟨b,0,none⟩),tok3 t] w (PostM B base b s i (σ.length + ω.length) (isCall t) t w (operandM s.size t ⟨rest s i,none,d⟩ σ ω)) := by
 unfold tok3
 refine calls_of_fnT mixed Tryz.func24 (s := s24) ?_
 rw [t24]
 simp only [addr_add,Nat.zero_add]
 refine nw fun w1 h1 z1 n1 => ?_
 have R1 := h.no h1
 have hnB : ¬ B w.heap.size := fun hb => by have := (h.bnd _ hb).2; omega
 generalize hnn : w.heap.size = nn at *
 refine cl_i (floor_any w1 B base b s i σ ω d R1 hok) ?_
 rintro e w2 ⟨h2,rfl⟩
 have R2 := R1.no h2
 have n2 := n1.ch h2 (fun h => h)
 have T2 : Turn B B w w2 := (Turn.no h1).trans (Turn.no h2)
 refine ⟨_,rfl,?_⟩
 unfold operandM
 refine ld_int (n2.cell 0) (br_both (fun e => ?_) fun e => ?_)
 ·have e : t.kind = 1 := (kd_1 _).1 (eq_t e)
  rw [if_pos e]
  refine cut_i mixed s24_4 (fun (_ : Unit) w' => ∃ B',Turn B B' w w' ∧ Rd B' base w' b s i σ (ω ++ [⟨nNum,0,t.num,[]⟩]) d) (by kernel_rfl) (fun g => ?_) ?_
  ·rw [t24_4]
   simp only [addr_add,Nat.zero_add]
   have hd := (Ch.refl No w2).drew
   refine hd_i (fun w' => Blk w' nn _ tTok3) (n2.ch hd (fun h => h)) (lh_int (fun w' h => h.cell 2) ?_)
   exact emit_held ⟨nNum,0,t.num,[]⟩ (R2.no hd) (n2.ch hd (fun h => h)) hnB (T2.trans (Turn.no hd)) (by omega) fun w' B' T' R' => ⟨rfl,(),rfl,B',T',R'⟩
  rintro ⟨⟩ g w3 ⟨B3,T3,R3⟩
  refine post_go T3 (Nat.le_refl _) hi hok ?_ R3
  rw [List.length_append,List.length_singleton]; omega
 have e1 : ¬ t.kind = 1 := fun h => eq_f e ((kd_1 _).2 h)
 rw [if_neg e1]
 refine ld_int (n2.cell 0) (br_both (fun e => ?_) fun e => ?_)
 ·have e : t.kind = 3 := (kd_3 _).1 (eq_t e)
  rw [if_pos e]
  refine cut_i mixed s24_14 (fun (_ : Unit) w' => ∃ B',Turn B B' w w' ∧ Rd B' base w' b s i σ (ω ++ [⟨nText,0,0,t.text⟩]) d) (by kernel_rfl) (fun g => ?_) ?_
  ·rw [t24_14]
   simp only [addr_add,Nat.zero_add]
   have hd := (Ch.refl No w2).drew
   refine hd_i (fun w' => Blk w' nn _ tTok3) (n2.ch hd (fun h => h)) (lh_str (fun w' h => h.cell 3) ?_)
   exact emit_held ⟨nText,0,0,t.text⟩ (R2.no hd) (n2.ch hd (fun h => h)) hnB (T2.trans (Turn.no hd)) (by omega) fun w' B' T' R' => ⟨rfl,(),rfl,B',T',R'⟩
  rintro ⟨⟩ g w3 ⟨B3,T3,R3⟩
  refine post_go T3 (Nat.le_refl _) hi hok ?_ R3
  rw [List.length_append,List.length_singleton]; omega
 have e3 : ¬ t.kind = 3 := fun h => eq_f e ((kd_3 _).2 h)
 rw [if_neg e3]
 refine cut_i mixed s24_23 (fun (v : Bool × Unit) w' => w' = w2 ∧ (v.1 = true ↔ (t.kind = 4 ∧ t.text = sMinus))) (by kernel_rfl) (fun g => ?_) ?_
 ·rw [t24_23]
  refine ld_int (n2.cell 0) (br_both (fun e => ?_) fun e => ⟨rfl,(false,()),rfl,rfl,?_⟩)
  ·have e : t.kind = 4 := (kd_4 _).1 (eq_t e)
   refine ld_str (n2.cell 3) ⟨rfl,(_,()),rfl,rfl,?_⟩
   simp only [tb_list]
   show ((t.text == sMinus) = true ↔ _)
   rw [beq_iff_eq]
   exact ⟨fun h => ⟨e,h⟩,fun h => h.2⟩
  ·have e : ¬ t.kind = 4 := fun h => eq_f e ((kd_4 _).2 h)
   exact ⟨(fun h => nomatch h),fun h => absurd h.1 e⟩
 rintro ⟨u,⟨⟩⟩ g w3 ⟨rfl,hu⟩
 dsimp only at hu
 have off : ∀ {u : Bool} {p : Prop},(u = true ↔ p) → u = false → ¬ p := fun h e hp => by have := h.2 hp; rw [e] at this; cases this
 refine br_both (fun e => ?_) fun e => ?_
 ·have hc := hu.1 e
  rw [if_pos hc.1,if_pos hc.2]
  refine cl_i (push_any w3 B base b s i ⟨nNeg,7,0⟩ σ ω d R2 rfl (by omega)) ?_
  rintro e w4 ⟨rfl,B4,T4,R4⟩
  refine ⟨(),rfl,post_go (T2.trans T4) (Nat.le_refl _) hi (hok.push ⟨Nat.zero_le _,by decide,by decide,by decide⟩ (by decide)) ?_ R4⟩
  rw [List.length_cons]; omega
 have hn1 := off hu e
 refine cut_i mixed s24_28 (fun (v : Bool × Unit) w' => w' = w3 ∧ (v.1 = true ↔ (t.kind = 4 ∧ (t.text = sLp ∨ t.text = sLb)))) (by kernel_rfl) (fun g => ?_) ?_
 ·rw [t24_28]
  refine ld_int (n2.cell 0) (br_both (fun e => ?_) fun e => ⟨rfl,(false,()),rfl,rfl,?_⟩)
  ·have e : t.kind = 4 := (kd_4 _).1 (eq_t e)
   refine ld_str (n2.cell 3) ?_
   simp only [tb_list]
   refine br_both (fun e2 => ⟨rfl,(true,()),rfl,rfl,⟨fun _ => ⟨e,.inl (beq_iff_eq.1 e2)⟩,fun _ => rfl⟩⟩) fun e2 => ?_
   have e2 : ¬ t.text = sLp := beq_eq_false_iff_ne.1 e2
   refine ld_str (n2.cell 3) ⟨rfl,(_,()),rfl,rfl,?_⟩
   simp only [tb_list]
   show ((t.text == sLb) = true ↔ _)
   rw [beq_iff_eq]
   exact ⟨fun h => ⟨e,.inr h⟩,fun h => h.2.resolve_left e2⟩
  ·have e : ¬ t.kind = 4 := fun h => eq_f e ((kd_4 _).2 h)
   exact ⟨(fun h => nomatch h),fun h => absurd h.1 e⟩
 rintro ⟨u2,⟨⟩⟩ g w4 ⟨rfl,hu2⟩
 dsimp only at hu2
 refine br_both (fun e => ?_) fun e => ?_
 ·have hc := hu2.1 e
  have hcn : isCall t = false := call_no (.inl (by rw [hc.1]; decide))
  rw [if_pos hc.1,if_neg (fun h => hn1 ⟨hc.1,h⟩),if_pos hc.2]
  refine ld_str (n2.cell 3) (cl_i (bracket_any w4 B base b s i σ ω d t.text R2 hok.deep (by omega)) ?_)
  rintro e w5 ⟨B5,T5,hx⟩
  unfold bar
  by_cases hdd : 10 < d + 1
  ·rw [if_pos hdd] at hx
   rw [if_pos hdd]
   obtain ⟨rfl,R5⟩ := hx
   exact ⟨35,rfl,post_er (T2.trans T5) hcn 35 (by decide)⟩
  ·rw [if_neg hdd] at hx
   rw [if_neg hdd]
   obtain ⟨rfl,R5⟩ := hx
   refine ⟨0,rfl,post_go (T2.trans T5) (Nat.le_refl _) hi ?_ ?_ R5⟩
   ·have hb : brk ⟨t.text,-1,0⟩ = true := by rcases hc.2 with h | h <;> rw [h] <;> decide
    refine ⟨by show d + 1 ≤ 10; omega,?_,fun x hx => ?_⟩
    ·rw [List.countP_cons,hok.brks,if_pos hb]
    ·rcases List.mem_cons.1 hx with rfl | hx
     ·exact ⟨Nat.zero_le _,Int.le_refl _,by dsimp only; omega,by rcases hc.2 with h | h <;> rw [h] <;> decide⟩
     ·exact hok.each x hx
   ·rw [List.length_cons]; omega
 have hn2 := off hu2 e
 refine cut_i mixed s24_35 (fun (v : Bool × Unit) w' => w' = w4 ∧ (v.1 = true ↔ (t.kind = 4 ∧ t.text = sRb))) (by kernel_rfl) (fun g => ?_) ?_
 ·rw [t24_35]
  refine ld_int (n2.cell 0) (br_both (fun e => ?_) fun e => ⟨rfl,(false,()),rfl,rfl,?_⟩)
  ·have e : t.kind = 4 := (kd_4 _).1 (eq_t e)
   refine ld_str (n2.cell 3) ⟨rfl,(_,()),rfl,rfl,?_⟩
   simp only [tb_list]
   show ((t.text == sRb) = true ↔ _)
   rw [beq_iff_eq]
   exact ⟨fun h => ⟨e,h⟩,fun h => h.2⟩
  ·have e : ¬ t.kind = 4 := fun h => eq_f e ((kd_4 _).2 h)
   exact ⟨(fun h => nomatch h),fun h => absurd h.1 e⟩
 rintro ⟨u3,⟨⟩⟩ g w5 ⟨rfl,hu3⟩
 dsimp only at hu3
 refine br_both (fun e => ?_) fun e => ?_
 ·have hc := hu3.1 e
  have hcn : isCall t = false := call_no (.inl (by rw [hc.1]; decide))
  rw [if_pos hc.1,if_neg (fun h => hn1 ⟨hc.1,h⟩),if_neg (fun h => hn2 ⟨hc.1,h⟩),if_pos hc.2]
  refine cl_i (top_any w5 B base b s i σ ω d R2) ?_
  rintro e w6 ⟨h6,rfl⟩
  refine ⟨(bytesL (topM σ).op,(topM σ).lv,((topM σ).cnt : Int),()),rfl,op_new fun n w7 h7 hn n7 => ?_⟩
  have R7 := (R2.no h6).no h7
  have T7 : Turn B B w w7 := T2.trans ((Turn.no h6).trans (Turn.no h7))
  refine cut_i mixed s24_41 (fun (v : Bool × Unit) w' => w' = w7 ∧ (v.1 = false ↔ ((topM σ).op = sLb ∧ (topM σ).lv < 0 ∧ (topM σ).cnt = 0))) (by kernel_rfl) (fun g => ?_) ?_
  ·rw [t24_41]
   refine ld_str (n7.cell 0) ?_
   simp only [tb_list]
   refine br_both (fun e => ⟨rfl,(true,()),rfl,rfl,?_⟩) fun e => ld_int (n7.cell 1) (br_both (fun e2 => ⟨rfl,(true,()),rfl,rfl,?_⟩) fun e2 => ld_int (n7.cell 2) ⟨rfl,(_,()),rfl,rfl,?_⟩)
   ·have e : ¬ (topM σ).op = sLb := by simpa [sLb] using e
    exact ⟨(fun h => nomatch h),fun h => absurd h.1 e⟩
   ·have e2 := ge_t e2
    exact ⟨(fun h => nomatch h),fun h => by have := h.2.1; omega⟩
   ·have e : (topM σ).op = sLb := by simpa [sLb] using e
    have e2 := ge_f e2
    show (decide ((((topM σ).cnt : Nat) : Int) > 0) = false ↔ _)
    rw [decide_eq_false_iff_not]
    exact ⟨fun h => ⟨e,by omega,by omega⟩,fun h => by have := h.2.2; omega⟩
  rintro ⟨u4,⟨⟩⟩ g w8 ⟨rfl,hu4⟩
  dsimp only at hu4
  refine br_both (fun e => ?_) fun e => ?_
  ·have hno : ¬ ((topM σ).op = sLb ∧ (topM σ).lv < 0 ∧ (topM σ).cnt = 0) := fun h => by
    have := hu4.2 h
    have e : u4 = true := e
    rw [e] at this; cases this
   cases σ with
   | nil => exact post_er T7 hcn 36 (by decide)
   | cons o σ0 =>
    have hno : ¬ (o.op = sLb ∧ o.lv < 0 ∧ o.cnt = 0) := hno
    dsimp only
    rw [if_neg hno]
    exact post_er T7 hcn 36 (by decide)
  ·have hyes := hu4.1 (show u4 = false from e)
   obtain ⟨o,σ0,rfl⟩ : ∃ o σ0,σ = o :: σ0 := by
    cases σ with
    | nil => exact absurd hyes.1 (by decide)
    | cons o σ0 => exact ⟨o,σ0,rfl⟩
   have hyes : o.op = sLb ∧ o.lv < 0 ∧ o.cnt = 0 := hyes
   dsimp only
   rw [if_pos hyes]
   rw [List.length_cons] at hcap ⊢
   have hbk : brk o = true := brk_of hyes.2.1 (by rw [hyes.1]; decide) (by rw [hyes.1]; decide) (by rw [hyes.1]; decide)
   obtain ⟨d1,d2,hK2⟩ := brk_pos hok hbk
   refine cl_i (emit_any w8 B base b s i _ ω d nList 0 R7 (by rw [List.length_cons]; omega)) ?_
   rintro e w9 ⟨rfl,B9,T9,R9⟩
   refine ⟨(),rfl,cl_i (drop_any w9 B9 base b s i o σ0 _ d R9) ?_⟩
   rintro e w10 ⟨rfl,T10,R10⟩
   refine ⟨(),rfl,dp_i R10 d1 d2 fun w11 T11 R11 => post_go (T7.trans (T9.trans (T10.trans T11))) (Nat.le_refl _) hi hK2 ?_ R11⟩
   rw [List.length_append,List.length_singleton]; omega
 have hn3 := off hu3 e
 refine ld_int (n2.cell 0) (br_both (fun e => ?_) fun e => ?_)
 ·have e2 : ¬ t.kind = 2 := fun h => ne_t e ((kd_2 _).2 h)
  have e4 : t.kind = 4 := by omega
  rw [if_pos e4,if_neg (fun h => hn1 ⟨e4,h⟩),if_neg (fun h => hn2 ⟨e4,h⟩),if_neg (fun h => hn3 ⟨e4,h⟩)]
  exact post_er T2 (call_no (.inl e2)) 36 (by decide)
 have e2 : t.kind = 2 := (kd_2 _).1 (ne_f e)
 rw [if_neg (show ¬ t.kind = 4 by omega),if_pos e2]
 refine ld_str (n2.cell 3) ?_
 refine cut_i mixed s24_51 (fun (v : Bool × Unit) w' => w' = w5 ∧ (v.1 = true ↔ plainM.contains t.text = true)) (by kernel_rfl) (fun g => ?_) ?_
 ·rw [t24_51]
  simp only [tb_list]
  have mem : ∀ x,x ∈ plainM → t.text = x → plainM.contains t.text = true := fun x hx h => List.contains_iff_mem.2 (by rw [h]; exact hx)
  refine br_both (fun e => ⟨rfl,(true,()),rfl,rfl,⟨fun _ => mem tKey (by decide) (beq_iff_eq.1 e),fun _ => rfl⟩⟩) fun e1 => ?_
  refine br_both (fun e => ⟨rfl,(true,()),rfl,rfl,⟨fun _ => mem tVal (by decide) (beq_iff_eq.1 e),fun _ => rfl⟩⟩) fun e2 => ?_
  refine br_both (fun e => ⟨rfl,(true,()),rfl,rfl,⟨fun _ => mem tAcc (by decide) (beq_iff_eq.1 e),fun _ => rfl⟩⟩) fun e3 => ?_
  refine br_both (fun e => ⟨rfl,(true,()),rfl,rfl,⟨fun _ => mem tHops (by decide) (beq_iff_eq.1 e),fun _ => rfl⟩⟩) fun e4 => ?_
  refine ⟨rfl,(_,()),rfl,rfl,?_⟩
  have e1 : ¬ t.text = tKey := beq_eq_false_iff_ne.1 e1
  have e2 : ¬ t.text = tVal := beq_eq_false_iff_ne.1 e2
  have e3 : ¬ t.text = tAcc := beq_eq_false_iff_ne.1 e3
  have e4 : ¬ t.text = tHops := beq_eq_false_iff_ne.1 e4
  show ((t.text == tNone) = true ↔ _)
  rw [beq_iff_eq,List.contains_iff_mem]
  simp only [plainM,List.mem_cons,List.not_mem_nil,or_false,e1,e2,e3,e4,false_or]
 rintro ⟨u5,⟨⟩⟩ g w6 ⟨rfl,hu5⟩
 dsimp only at hu5
 refine br_both (fun e => ?_) fun e => ?_
 ·have hc := hu5.1 e
  rw [if_pos hc]
  refine ld_str (n2.cell 3) (cl_i (emit_any w6 B base b s i σ ω d t.text 0 R2 (by omega)) ?_)
  rintro e w7 ⟨rfl,B7,T7,R7⟩
  refine ⟨(),rfl,post_go (T2.trans T7) (Nat.le_refl _) hi hok ?_ R7⟩
  rw [List.length_append,List.length_singleton]; omega
 rw [if_neg (off hu5 e)]
 simp only [tb_list]
 refine br_both (fun e => ?_) fun e => ?_
 ·have e : t.text = tIf := beq_iff_eq.1 e
  have hcn : isCall t = false := call_no (.inr (by rw [e]; decide))
  rw [if_pos e]
  refine br_both (fun e => ?_) fun e => ?_
  ·have e := gt_t e
   rw [if_pos e]
   exact post_er T2 hcn 36 (by decide)
  ·have e := gt_f e
   rw [if_neg (by omega)]
   refine cl_i (push_any w6 B base b s i ⟨tIf,-1,0⟩ σ ω d R2 rfl (by omega)) ?_
   rintro e w7 ⟨rfl,B7,T7,R7⟩
   refine ⟨(),rfl,post_go (T2.trans T7) (Nat.le_refl _) hi (hok.push ⟨Nat.zero_le _,by decide,by decide,by decide⟩ (by decide)) ?_ R7⟩
   rw [List.length_cons]; omega
 have eif : ¬ t.text = tIf := beq_eq_false_iff_ne.1 e
 rw [if_neg eif]
 refine br_both (fun e => ?_) fun e => ?_
 ·have e : t.text = tNot := beq_iff_eq.1 e
  have hcn : isCall t = false := call_no (.inr (by rw [e]; decide))
  rw [if_pos e]
  refine br_both (fun e => ?_) fun e => ?_
  ·have e := gt_t e
   rw [if_pos e]
   exact post_er T2 hcn 36 (by decide)
  ·have e := gt_f e
   rw [if_neg (by omega)]
   refine cl_i (push_any w6 B base b s i ⟨tNot,3,0⟩ σ ω d R2 rfl (by omega)) ?_
   rintro e w7 ⟨rfl,B7,T7,R7⟩
   refine ⟨(),rfl,post_go (T2.trans T7) (Nat.le_refl _) hi (hok.push ⟨Nat.zero_le _,by decide,by decide,by decide⟩ (by decide)) ?_ R7⟩
   rw [List.length_cons]; omega
 have ent : ¬ t.text = tNot := beq_eq_false_iff_ne.1 e
 rw [if_neg ent]
 refine ld_str (n2.cell 3) (cl_i (takes_any w6 _) ?_)
 rintro e' w7 ⟨rfl,rfl⟩
 rw [tb_data]
 refine ⟨_,rfl,br_both (fun e => ?_) fun e => ?_⟩
 ·have e : takesM t.text = 0 := by have := eq_t e; omega
  have hf : findB t.text = none := by
   cases hf : findB t.text with
   | none => rfl
   | some k => have := (takes_pos t.text).2 (by rw [hf]; rfl); omega
  rw [hf]
  exact post_er T2 (call_no (.inr hf)) 36 (by decide)
 ·have e : takesM t.text ≠ 0 := by have := eq_f e; omega
  obtain ⟨k,hf⟩ : ∃ k,findB t.text = some k := Option.isSome_iff_exists.1 ((takes_pos t.text).1 (by omega))
  have hcy : isCall t = true := by unfold isCall; rw [decide_eq_true e2,hf]; rfl
  rw [hf,hcy]
  dsimp only
  refine ld_str (n2.cell 3) (cl_i (call_any w7 B base b s i σ ω d t.text R2 hi hs hok.deep (by omega)) ?_)
  rintro e w8 ⟨B8,T8,hx⟩
  have T := T2.trans T8
  unfold peekB
  dsimp only
  cases hl : lexB s.size (rest s i) with
  | error c =>
   rw [hl] at hx
   have hpos := lexB_pos hl
   obtain ⟨rfl,R8⟩ := hx
   exact ⟨_,rfl,B8,T,⟨true,rfl⟩,hpos,by rw [if_pos rfl]; exact ⟨_,_,_,R8⟩⟩
  | ok z =>
   rw [hl] at hx
   obtain ⟨t2,r⟩ := z
   dsimp only at hx ⊢
   by_cases hb : isB t2 4 sLp = true
   ·rw [if_pos hb] at hx ⊢
    unfold bar dropB
    dsimp only
    by_cases hdd : 10 < d + 1
    ·rw [if_pos hdd] at hx ⊢
     obtain ⟨rfl,R8⟩ := hx
     exact ⟨_,rfl,B8,T,⟨true,rfl⟩,Nat.succ_ne_zero _,by rw [if_pos rfl]; exact ⟨_,_,_,R8⟩⟩
    ·rw [if_neg hdd] at hx ⊢
     obtain ⟨rfl,j,hj,rfl,R8⟩ := hx
     have hij : i ≤ j := by
      rcases lexB_len hl with ⟨-,h⟩ | ⟨-,h⟩
      ·have := congrArg List.length h
       rw [restL] at this
       simp only [List.length_nil] at this
       omega
      ·rw [restL,restL] at h
       omega
     refine ⟨0,rfl,post_go T hij hj ?_ ?_ R8⟩
     ·have hnm : t.text ≠ tThen ∧ t.text ≠ tElse ∧ t.text ≠ [] := by
       refine ⟨fun h => e ?_,fun h => e ?_,fun h => e ?_⟩ <;> rw [h] <;> decide
      have hb2 : brk ⟨t.text,-1,0⟩ = true := brk_of (by show (-1 : Int) < 0; decide) eif hnm.1 hnm.2.1
      refine ⟨by show d + 1 ≤ 10; omega,?_,fun x hx => ?_⟩
      ·rw [List.countP_cons,hok.brks,if_pos hb2]
      ·rcases List.mem_cons.1 hx with rfl | hx
       ·exact ⟨Nat.zero_le _,Int.le_refl _,by dsimp only; omega,hnm.2.2⟩
       ·exact hok.each x hx
     ·rw [List.length_cons]; omega
   ·rw [if_neg hb] at hx ⊢
    obtain ⟨rfl,R8⟩ := hx
    exact ⟨_,rfl,B8,T,⟨true,rfl⟩,Nat.succ_ne_zero _,by rw [if_pos rfl]; exact ⟨_,_,_,R8⟩⟩
end Go.Proofs.YtmdmomccibpjbaaGreatDoor.E
