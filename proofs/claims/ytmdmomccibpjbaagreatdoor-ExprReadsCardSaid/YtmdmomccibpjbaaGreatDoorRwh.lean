/- The document's reader: the walk of what a text in quotes means. The document's reader: signs (plain law). -/
import Derived.Test.YtmdmomccibpjbaaGreatDoorRwf
namespace Go.Proofs.YtmdmomccibpjbaaGreatDoor.E
open Go Tr
open V (rest rest_cases restL sizeB pk_rest cx_i cp_i extract_list pk hexP)
set_option maxRecDepth 100000
set_option maxHeartbeats 2000000
/-! the tree of function 47 -/
abbrev fx47_1 (qs0 : ByteArray) : List (Tmp × Value) := [(0,.string qs0)]
abbrev L47_1 : List (Tmp × Value) := []
abbrev mx47_1 : List (Tmp × Comp) := []
abbrev mr47_1 : List (Tmp × Comp) := [(2,.leaf .str),(3,.leaf .bool)]
def s47_1 : Script := .sym (.lit (.lit (.lit (.lit (.lit (.lit (.lit .nil))))))) (.lit (.lit (.lit (.lit (.ix (.lit (.lit (.sym .nil .nil))))))))
theorem t47_1 (qs0 : ByteArray) (gg1 : Nat → Value) : pieceT Tryz.prog (at_ Tryz.f47 [1,0]) 117 (fx47_1 qs0 ++ L47_1) gg1 (mx47_1.map (·.1)) [] (mr47_1.map (·.1)) s47_1 = .br (Decidable.decide ((↑qs0.size : Int) < 2)) (.fin .ret [(2,.string (bytesL [])),(3,.bool false)]) (.bidx qs0 (IntKind.i64.wrap ((↑qs0.size : Int) - 1)) (fun c2 => .br (c2 != 34) (.fin .ret [(2,.string (bytesL [])),(3,.bool false)]) (.fin .normal []))) := by kernel_rfl
abbrev fx47_4 (qs0 : ByteArray) : List (Tmp × Value) := [(5,.string (qs0.extract 1 (IntKind.i64.wrap ((↑qs0.size : Int) - 1)).toNat))]
abbrev m47_4 : List (Tmp × Comp) := [(4,.leaf .sl),(6,.leaf (.int .i64))]
abbrev mx47_4 : List (Tmp × Comp) := [(4,.leaf .sl)]
abbrev mr47_4 : List (Tmp × Comp) := [(2,.leaf .str),(3,.leaf .bool)]
abbrev fx47_6 (qs0 : ByteArray) (l_4 : Option Addr × Nat × Nat) (x_6 : Int) (c5 : Int) : List (Tmp × Value) := [(4,.slice l_4.1 l_4.2.1 l_4.2.2),(5,.string (qs0.extract 1 (IntKind.i64.wrap ((↑qs0.size : Int) - 1)).toNat)),(6,.int .i64 x_6),(7,.int .u8 c5)]
abbrev L47_6 : List (Tmp × Value) := []
abbrev mx47_6 : List (Tmp × Comp) := []
abbrev mr47_6 : List (Tmp × Comp) := [(2,.leaf .str),(3,.leaf .bool)]
def s47_6 : Script := .sym (.lit (.lit (.lit (.lit (.lit (.lit .nil)))))) (.lit (.lit (.sym (.lit (.lit (.lit .nil))) (.lit (.lit (.sym .nil .nil))))))
theorem t47_6 (qs0 : ByteArray) (l_4 : Option Addr × Nat × Nat) (x_6 : Int) (c5 : Int) (gg6 : Nat → Value) : pieceT Tryz.prog (at_ Tryz.f47 [1,1,1,1,0,1,0,0,1,0,0,1,0]) 117 (fx47_6 qs0 l_4 x_6 c5 ++ L47_6) gg6 (mx47_6.map (·.1)) [] (mr47_6.map (·.1)) s47_6 = .br (Decidable.decide (c5 < 32)) (.fin .ret [(2,.string (bytesL [])),(3,.bool false)]) (.br (Decidable.decide (c5 > 126)) (.fin .ret [(2,.string (bytesL [])),(3,.bool false)]) (.br (c5 == 34) (.fin .ret [(2,.string (bytesL [])),(3,.bool false)]) (.fin .normal []))) := by kernel_rfl
abbrev fx47_10 (qs0 : ByteArray) (l_4 : Option Addr × Nat × Nat) (x_6 : Int) : List (Tmp × Value) := [(4,.slice l_4.1 l_4.2.1 l_4.2.2),(5,.string (qs0.extract 1 (IntKind.i64.wrap ((↑qs0.size : Int) - 1)).toNat)),(6,.int .i64 (IntKind.i64.wrap (x_6 + 1)))]
abbrev L47_10 : List (Tmp × Value) := []
abbrev mx47_10 : List (Tmp × Comp) := []
abbrev mr47_10 : List (Tmp × Comp) := [(2,.leaf .str),(3,.leaf .bool)]
def s47_10 : Script := .sym .nil .nil
theorem t47_10 (qs0 : ByteArray) (l_4 : Option Addr × Nat × Nat) (x_6 : Int) (gg10 : Nat → Value) : pieceT Tryz.prog (at_ Tryz.f47 [1,1,1,1,0,1,0,0,1,0,0,1,1,1,1,0]) 117 (fx47_10 qs0 l_4 x_6 ++ L47_10) gg10 (mx47_10.map (·.1)) [] (mr47_10.map (·.1)) s47_10 = .br (Decidable.decide (IntKind.i64.wrap (x_6 + 1) ≥ (↑(qs0.extract 1 (IntKind.i64.wrap ((↑qs0.size : Int) - 1)).toNat).size : Int))) (.fin .ret [(2,.string (bytesL [])),(3,.bool false)]) (.fin .normal []) := by kernel_rfl
abbrev fx47_13 (qs0 : ByteArray) (l_4 : Option Addr × Nat × Nat) (x_6 : Int) (c12 : Int) : List (Tmp × Value) := [(4,.slice l_4.1 l_4.2.1 l_4.2.2),(5,.string (qs0.extract 1 (IntKind.i64.wrap ((↑qs0.size : Int) - 1)).toNat)),(6,.int .i64 (IntKind.i64.wrap (x_6 + 1))),(59,.int .u8 c12)]
abbrev mx47_13 : List (Tmp × Comp) := [(60,.leaf .bool)]
def s47_13 : Script := .sym .nil .nil
theorem t47_13 (qs0 : ByteArray) (l_4 : Option Addr × Nat × Nat) (x_6 : Int) (c12 : Int) (gg13 : Nat → Value) : pieceT Tryz.prog (at_ Tryz.f47 [1,1,1,1,0,1,0,0,1,0,0,1,1,1,1,1,1,0,0]) 117 (fx47_13 qs0 l_4 x_6 c12) gg13 (mx47_13.map (·.1)) [] [] s47_13 = .br (c12 == 34) (.fin .normal [(60,.bool true)]) (.fin .normal [(60,.bool (c12 == 92))]) := by kernel_rfl
abbrev fx47_22 (qs0 : ByteArray) (l_4 : Option Addr × Nat × Nat) (x_6 : Int) : List (Tmp × Value) := [(4,.slice l_4.1 l_4.2.1 l_4.2.2),(5,.string (qs0.extract 1 (IntKind.i64.wrap ((↑qs0.size : Int) - 1)).toNat)),(6,.int .i64 (IntKind.i64.wrap (x_6 + 1)))]
abbrev L47_22 : List (Tmp × Value) := []
abbrev mx47_22 : List (Tmp × Comp) := []
abbrev mr47_22 : List (Tmp × Comp) := [(2,.leaf .str),(3,.leaf .bool)]
def s47_22 : Script := .sym .nil .nil
theorem t47_22 (qs0 : ByteArray) (l_4 : Option Addr × Nat × Nat) (x_6 : Int) (gg22 : Nat → Value) : pieceT Tryz.prog (at_ Tryz.f47 [1,1,1,1,0,1,0,0,1,0,0,1,1,1,1,1,1,0,1,1,1,1,1,1,1,0,0]) 117 (fx47_22 qs0 l_4 x_6 ++ L47_22) gg22 (mx47_22.map (·.1)) [] (mr47_22.map (·.1)) s47_22 = .br (Decidable.decide (IntKind.i64.wrap (IntKind.i64.wrap (x_6 + 1) + 2) ≥ (↑(qs0.extract 1 (IntKind.i64.wrap ((↑qs0.size : Int) - 1)).toNat).size : Int))) (.fin .ret [(2,.string (bytesL [])),(3,.bool false)]) (.fin .normal []) := by kernel_rfl
abbrev fx47_28 (qs0 : ByteArray) (l_4 : Option Addr × Nat × Nat) (x_6 : Int) (x25 : Int) (x27 : Int) : List (Tmp × Value) := [(4,.slice l_4.1 l_4.2.1 l_4.2.2),(5,.string (qs0.extract 1 (IntKind.i64.wrap ((↑qs0.size : Int) - 1)).toNat)),(6,.int .i64 (IntKind.i64.wrap (x_6 + 1))),(8,.int .i64 x25),(9,.int .i64 x27)]
abbrev L47_28 : List (Tmp × Value) := []
abbrev mx47_28 : List (Tmp × Comp) := []
abbrev mr47_28 : List (Tmp × Comp) := [(2,.leaf .str),(3,.leaf .bool)]
def s47_28 : Script := .sym (.lit (.lit (.lit .nil))) (.lit (.lit (.sym .nil .nil)))
theorem t47_28 (qs0 : ByteArray) (l_4 : Option Addr × Nat × Nat) (x_6 : Int) (x25 : Int) (x27 : Int) (gg28 : Nat → Value) : pieceT Tryz.prog (at_ Tryz.f47 [1,1,1,1,0,1,0,0,1,0,0,1,1,1,1,1,1,0,1,1,1,1,1,1,1,0,1,1,1,0]) 117 (fx47_28 qs0 l_4 x_6 x25 x27 ++ L47_28) gg28 (mx47_28.map (·.1)) [] (mr47_28.map (·.1)) s47_28 = .br (Decidable.decide (x25 < 0)) (.fin .ret [(2,.string (bytesL [])),(3,.bool false)]) (.br (Decidable.decide (x27 < 0)) (.fin .ret [(2,.string (bytesL [])),(3,.bool false)]) (.fin .normal [])) := by kernel_rfl
def s47_4 : Script := .sym (.ix (.cr 0 [4,5,6,7] [] mx47_6 mr47_6 (.sym (.nop (.nop (.nop (.rn (.one (.leaf .sl)) .nil)))) (.cr 1 [4,5,6] [] mx47_10 mr47_10 (.ix (.ct 0 [4,5,6,59] mx47_13 (.sym (.ix (.nop (.rn (.one (.leaf .sl)) .nil))) (.sym (.nop (.nop (.rn (.one (.leaf .sl)) .nil))) (.sym (.nop (.nop (.rn (.one (.leaf .sl)) .nil))) (.sym (.cr 0 [4,5,6] [] mx47_22 mr47_22 (.ix (.cl (.one (.leaf (.int .i64))) (.ix (.cl (.one (.leaf (.int .i64))) (.cr 0 [4,5,6,8,9] [] mx47_28 mr47_28 (.nop (.nop (.nop (.nop (.nop (.nop (.nop (.rn (.one (.leaf .sl)) .nil)))))))) .nil))))) .nil) .nil)))))) .nil)) .nil)) .nil
theorem t47_4 (qs0 : ByteArray) (l_4 : Option Addr × Nat × Nat) (x_6 : Int) (gg4 : Nat → Value) : pieceT Tryz.prog (at_ Tryz.f47 [1,1,1,1,0,1,0,0]) 117 (fx47_4 qs0 ++ mvals m47_4 (l_4,x_6,())) gg4 (m47_4.map (·.1)) (mx47_4.map (·.1)) (mr47_4.map (·.1)) s47_4 = .br (Decidable.decide (x_6 < (↑(qs0.extract 1 (IntKind.i64.wrap ((↑qs0.size : Int) - 1)).toNat).size : Int))) (.bidx (qs0.extract 1 (IntKind.i64.wrap ((↑qs0.size : Int) - 1)).toNat) x_6 (fun c5 => .cutr (at_ Tryz.f47 [1,1,1,1,0,1,0,0,1,0,0,1,0]) 117 (fx47_6 qs0 l_4 x_6 c5) L47_6 mx47_6 mr47_6 (fun u7 g7 => .br (c5 != 92) (.new (.cells #[.int .u8 c5] 5 (0,0)) (fun n8 => .run (builtin .append #[76,76] 76 #[false,false] #[.slice l_4.1 l_4.2.1 l_4.2.2,.slice (some ⟨n8,0,none⟩) 1 1]) (.one (.leaf .sl)) (fun l9 => .fin .normal [(4,.slice l9.1 l9.2.1 l9.2.2),(6,.int .i64 (IntKind.i64.wrap (x_6 + 1)))]))) (.cutr (at_ Tryz.f47 [1,1,1,1,0,1,0,0,1,0,0,1,1,1,1,0]) 117 (fx47_10 qs0 l_4 x_6) L47_10 mx47_10 mr47_10 (fun u11 g11 => .bidx (qs0.extract 1 (IntKind.i64.wrap ((↑qs0.size : Int) - 1)).toNat) (IntKind.i64.wrap (x_6 + 1)) (fun c12 => .cut (at_ Tryz.f47 [1,1,1,1,0,1,0,0,1,0,0,1,1,1,1,1,1,0,0]) 117 (fx47_13 qs0 l_4 x_6 c12) mx47_13 (fun u14 g14 => .br u14.1 (.bidx (qs0.extract 1 (IntKind.i64.wrap ((↑qs0.size : Int) - 1)).toNat) (IntKind.i64.wrap (x_6 + 1)) (fun c15 => .new (.cells #[.int .u8 c15] 5 (0,0)) (fun n16 => .run (builtin .append #[76,76] 76 #[false,false] #[.slice l_4.1 l_4.2.1 l_4.2.2,.slice (some ⟨n16,0,none⟩) 1 1]) (.one (.leaf .sl)) (fun l17 => .fin .normal [(4,.slice l17.1 l17.2.1 l17.2.2),(6,.int .i64 (IntKind.i64.wrap (IntKind.i64.wrap (x_6 + 1) + 1)))])))) (.br (c12 == 110) (.new (.cells #[.int .u8 10] 5 (0,0)) (fun n18 => .run (builtin .append #[76,76] 76 #[false,false] #[.slice l_4.1 l_4.2.1 l_4.2.2,.slice (some ⟨n18,0,none⟩) 1 1]) (.one (.leaf .sl)) (fun l19 => .fin .normal [(4,.slice l19.1 l19.2.1 l19.2.2),(6,.int .i64 (IntKind.i64.wrap (IntKind.i64.wrap (x_6 + 1) + 1)))]))) (.br (c12 == 116) (.new (.cells #[.int .u8 9] 5 (0,0)) (fun n20 => .run (builtin .append #[76,76] 76 #[false,false] #[.slice l_4.1 l_4.2.1 l_4.2.2,.slice (some ⟨n20,0,none⟩) 1 1]) (.one (.leaf .sl)) (fun l21 => .fin .normal [(4,.slice l21.1 l21.2.1 l21.2.2),(6,.int .i64 (IntKind.i64.wrap (IntKind.i64.wrap (x_6 + 1) + 1)))]))) (.br (c12 == 120) (.cutr (at_ Tryz.f47 [1,1,1,1,0,1,0,0,1,0,0,1,1,1,1,1,1,0,1,1,1,1,1,1,1,0,0]) 117 (fx47_22 qs0 l_4 x_6) L47_22 mx47_22 mr47_22 (fun u23 g23 => .bidx (qs0.extract 1 (IntKind.i64.wrap ((↑qs0.size : Int) - 1)).toNat) (IntKind.i64.wrap (IntKind.i64.wrap (x_6 + 1) + 1)) (fun c24 => .call 75 #[.int .u8 c24] (.one (.leaf (.int .i64))) (fun x25 => .bidx (qs0.extract 1 (IntKind.i64.wrap ((↑qs0.size : Int) - 1)).toNat) (IntKind.i64.wrap (IntKind.i64.wrap (x_6 + 1) + 2)) (fun c26 => .call 75 #[.int .u8 c26] (.one (.leaf (.int .i64))) (fun x27 => .cutr (at_ Tryz.f47 [1,1,1,1,0,1,0,0,1,0,0,1,1,1,1,1,1,0,1,1,1,1,1,1,1,0,1,1,1,0]) 117 (fx47_28 qs0 l_4 x_6 x25 x27) L47_28 mx47_28 mr47_28 (fun u29 g29 => .new (.cells #[.int .u8 (IntKind.u8.wrap (IntKind.i64.wrap (IntKind.i64.wrap (16 * x25) + x27)))] 5 (0,0)) (fun n30 => .run (builtin .append #[76,76] 76 #[false,false] #[.slice l_4.1 l_4.2.1 l_4.2.2,.slice (some ⟨n30,0,none⟩) 1 1]) (.one (.leaf .sl)) (fun l31 => .fin .normal [(4,.slice l31.1 l31.2.1 l31.2.2),(6,.int .i64 (IntKind.i64.wrap (IntKind.i64.wrap (IntKind.i64.wrap (x_6 + 1) + 2) + 1)))]))) (fun u32 g32 => .fin .ret [(2,.string u32.1),(3,.bool u32.2.1)])))))) (fun u33 g33 => .fin .ret [(2,.string u33.1),(3,.bool u33.2.1)])) (.fin .ret [(2,.string (bytesL [])),(3,.bool false)]))))))) (fun u34 g34 => .fin .ret [(2,.string u34.1),(3,.bool u34.2.1)]))) (fun u35 g35 => .fin .ret [(2,.string u35.1),(3,.bool u35.2.1)]))) (.fin (.exit 0) [(4,.slice l_4.1 l_4.2.1 l_4.2.2)]) := by kernel_rfl
def s47 : Script := .cr 1 [0] [] mx47_1 mr47_1 (.nop (.nop (.nop (.nop (.nop (.nd (.lp 0 [5] [4,6] mx47_4 mr47_4 (.nop (.rn (.one (.leaf .str)) .nil)) .nil))))))) .nil
theorem t47 (qs0 : ByteArray) : fnT Tryz.prog Tryz.f47 #[.string qs0] s47 = .cutr (at_ Tryz.f47 [1,0]) 117 (fx47_1 qs0) L47_1 mx47_1 mr47_1 (fun u3 g3 => .need (Decidable.decide (Int.ofNat 0 ≤ 1 ∧ 1 ≤ IntKind.i64.wrap ((↑qs0.size : Int) - 1) ∧ IntKind.i64.wrap ((↑qs0.size : Int) - 1) ≤ (↑qs0.size : Int))) (.loop (at_ Tryz.f47 [1,1,1,1,0,1,0,0]) 117 (fx47_4 qs0) [(4,.slice none 0 0),(6,.int .i64 0)] mx47_4 mr47_4 0 (fun u36 g36 => .run (vNext (convert 76 9 (.slice u36.1.1 u36.1.2.1 u36.1.2.2))) (.one (.leaf .str)) (fun s37 => .done (.returned (.tuple #[.string s37,.bool (Decidable.decide ((↑u36.fst.snd.fst : Int) ≤ 24))])))) (fun u38 g38 => .done (.returned (.tuple #[.string u38.1,.bool u38.2.1]))))) (fun u39 g39 => .done (.returned (.tuple #[.string u39.1,.bool u39.2.1]))) := by kernel_rfl
def MeanR (w : World) (p : ByteArray) (e : Ending) (w' : World) : Prop := Ch No w w' ∧ match meantB p.data.toList with
 | some t => e = .returned (.tuple #[.string (bytesL t),.bool true])
 | none => ∃ x,e = .returned (.tuple #[.string x,.bool false])
theorem inB_cons {c : UInt8} (h1 : okc c = false) (h2 : c ≠ 34) (k : Nat) (acc r : Txt) : inB (k + 1) acc (c :: r) = if c = 92 then (match escI r with
   | none => none
   | some (b,r') => inB k (acc ++ [b]) r') else inB k (acc ++ [c]) r := by
 conv => lhs; unfold inB
 rw [if_neg (by simp [h1,h2])]
 rfl
def capM (o : Option Txt) : Option Txt := match o with
 | none => none
 | some t => if t.length ≤ 24 then some t else none
theorem meant_any (w : World) (p : ByteArray) (hs : p.size ≤ 100) : Calls Tryz.prog 47 #[.string p] w (MeanR w p) := by
 refine calls_of_fnT mixed Tryz.func47 (s := s47) ?_
 rw [t47]
 have bad0 : meantB p.data.toList = none → ∀ w' x,Ch No w w' → MeanR w p (.returned (.tuple #[.string x,.bool false])) w' := fun h w' x hc => ⟨hc,by rw [h]; exact ⟨x,rfl⟩⟩
 refine cutr_i mixed s47_1 (fun _ w' => w' = w ∧ 2 ≤ p.size ∧ p.data.toList.getLast? = some 34) (fun (v : ByteArray × Bool × Unit) w' => w' = w ∧ v.2.1 = false ∧ meantB p.data.toList = none) (by kernel_rfl) (by kernel_rfl) (fun g => ?_) ?_ (fun v g w' h => by
  obtain ⟨x,y,⟨⟩⟩ := v
  obtain ⟨rfl,h2,h3⟩ := h
  dsimp only at h2
  subst h2
  exact bad0 h3 _ _ (Ch.refl No _))
 ·rw [t47_1]
  refine br_both (fun e => ⟨(_,false,()),rfl,rfl,rfl,?_⟩) fun e => ?_
  ·have e := lt_t e
   unfold meantB
   rw [if_pos (.inl (by rw [sizeB]; omega))]
  have e := lt_f e
  have h2 : 2 ≤ p.size := by omega
  have hw : IntKind.i64.wrap ((p.size : Int) - 1) = ((p.size - 1 : Nat) : Int) := by rw [wrap_in (by omega) (by omega)]; omega
  have hlt : p.size - 1 < p.size := by omega
  have hl : p.data.toList.getLast? = some (p[p.size - 1]'hlt) := by
   rw [List.getLast?_eq_getElem?,sizeB]
   have := V.pk_rest (s := p) (i := p.size - 1) hlt
   have h0 : (rest p (p.size - 1))[0]? = some (p[p.size - 1]'hlt) := by rw [this]; rfl
   unfold V.rest at h0
   rw [List.getElem?_drop] at h0
   exact h0
  rw [hw]
  refine bi_i (by omega) (by rw [Int.toNat_natCast]; exact hlt) (br_both (fun e => ?_) fun e => ?_)
  ·refine ⟨(_,false,()),rfl,rfl,rfl,?_⟩
   have hne : p.data.toList.getLast? ≠ some 34 := by
    rw [hl]
    intro h
    have h := Option.some.inj h
    have e : ((((p[(((p.size - 1 : Nat)) : Int).toNat]'hlt).toNat : Nat) : Int) != 34) = true := e
    rw [show p[(((p.size - 1 : Nat)) : Int).toNat]'hlt = 34 from h] at e
    exact absurd e (by decide)
   unfold meantB
   rw [if_pos (.inr hne)]
  ·refine ⟨(),rfl,rfl,h2,?_⟩
   rw [hl]
   have e : ((((p[(((p.size - 1 : Nat)) : Int).toNat]'hlt).toNat : Nat) : Int) != 34) = false := e
   have e : (((p[(((p.size - 1 : Nat)) : Int).toNat]'hlt).toNat : Nat) : Int) = 34 := by simpa using e
   exact congrArg some (u8_of (d := 34) e)
 rintro ⟨⟩ g w1 ⟨rfl,h2,hlast⟩
 have hw : IntKind.i64.wrap ((p.size : Int) - 1) = ((p.size - 1 : Nat) : Int) := by rw [wrap_in (by omega) (by omega)]; omega
 refine nd_i (by rw [hw]; exact decide_eq_true ⟨by decide,by omega,by omega⟩) ?_
 obtain ⟨pin,hpin⟩ : ∃ pin,pin = p.extract 1 (IntKind.i64.wrap ((p.size : Int) - 1)).toNat := ⟨_,rfl⟩
 have hpl : pin.data.toList = p.data.toList.tail.dropLast := by
  rw [hpin,hw,Int.toNat_natCast,extract_list,List.dropLast_eq_take,List.length_tail,sizeB,List.drop_one.symm]
 have hps : pin.size = p.size - 2 := by rw [← sizeB,hpl,List.length_dropLast,List.length_tail,sizeB]; omega
 obtain ⟨M,hM⟩ : ∃ M,M = inB p.size [] (rest pin 0) := ⟨_,rfl⟩
 have hmb : meantB p.data.toList = capM M := by
  unfold meantB
  rw [if_neg (by rw [hlast,sizeB]; simp; omega),hM,← hpl,sizeB]
  rfl
 have bad : M = none → ∀ w' x,Ch No w1 w' → MeanR w1 p (.returned (.tuple #[.string x,.bool false])) w' := fun h => bad0 (by rw [hmb,h]; rfl)
 have lenR : ∀ j,(rest pin j).length = pin.size - j := restL pin
 refine loop_i mixed m47_4 s47_4 (by kernel_rfl) (by kernel_rfl)
  (fun (v : (Option Addr × Nat × Nat) × Int × Unit) w' => Ch No w1 w' ∧ ∃ (j f : Nat) (acc : Txt),v.2.1 = j ∧ RowB w' w1.heap.size v.1.1 v.1.2.1 v.1.2.2 acc ∧ j ≤ pin.size ∧ acc.length ≤ j ∧ (rest pin j).length < f ∧ M = inB f acc (rest pin j))
  (fun (v : (Option Addr × Nat × Nat) × Int × Unit) _ => pin.size - v.2.1.toNat) ((none,0,0),0,()) rfl ⟨Ch.refl _ _,0,_,[],rfl,Row.nil _ _ _ _,by omega,by simp,by rw [lenR]; omega,hM⟩ ?_
 intro v g w2 hv
 rw [t47_4]
 obtain ⟨⟨qb,nb,cb⟩,a,⟨⟩⟩ := v
 dsimp only at hv ⊢
 obtain ⟨hc2,j,f,acc,ha,hR,hj,hacc,hf,hMj⟩ := hv
 subst ha
 have hn := hR.len
 obtain ⟨f,rfl⟩ : ∃ f',f = f' + 1 := ⟨f - 1,by omega⟩
 rw [← hpin]
 refine br_both (fun e => ?_) fun e => ?_
 ·have e := lt_t e
  have hlt : j < pin.size := by omega
  refine bi_i (by omega) (by rw [Int.toNat_natCast]; exact hlt) ?_
  obtain ⟨c,hc⟩ : ∃ c,c = pin[j]'hlt := ⟨_,rfl⟩
  rw [show pin[((j : Nat) : Int).toNat]'hlt = c from hc.symm]
  have hr : rest pin j = c :: rest pin (j + 1) := by rw [hc]; exact pk_rest hlt
  have hrl : (rest pin (j + 1)).length < f := by
   rw [lenR] at hf ⊢; omega
  have hwj : IntKind.i64.wrap ((j : Int) + 1) = ((j + 1 : Nat) : Int) := wrap_succ (by omega) (by omega)
  have hwj2 : IntKind.i64.wrap (((j + 1 : Nat) : Int) + 1) = ((j + 2 : Nat) : Int) := wrap_succ (by omega) (by omega)
  have again : ∀ (q' : Option Addr) (c' j' f' : Nat) (news : List UInt8) (w3 w' : World),Ch No w2 w3 → GrewB w1.heap.size w3 qb nb cb w' q' (nb + news.length) c' (acc ++ news) → j < j' → j' ≤ pin.size → acc.length + news.length ≤ j' → (rest pin j').length < f' → M = inB f' (acc ++ news) (rest pin j') →
    ∃ v' : MVars m47_4,[((4 : Nat),Value.slice q' (nb + news.length) c'),(6,.int .i64 (j' : Int))] = mvals m47_4 v' ∧ (Ch No w1 w' ∧ ∃ (j f : Nat) (acc : Txt),v'.2.1 = j ∧ RowB w' w1.heap.size v'.1.1 v'.1.2.1 v'.1.2.2 acc ∧ j ≤ pin.size ∧ acc.length ≤ j ∧ (rest pin j).length < f ∧ M = inB f acc (rest pin j)) ∧ pin.size - v'.2.1.toNat < pin.size - (j : Int).toNat := fun q' c' j' f' news w3 w' h3 hg hjj hjs hl hfl hm => by
   refine ⟨((q',nb + news.length,c'),(j' : Int),()),rfl,⟨(hc2.trans h3).then_ hg.ch fun k hk hk' => ?_,j',f',acc ++ news,rfl,hg.own,hjs,by rw [List.length_append]; exact hl,hfl,hm⟩,?_⟩
   ·have := (Row.lt (Row.no hR h3) hk').1
    omega
   ·dsimp only
    rw [Int.toNat_natCast,Int.toNat_natCast]
    exact Nat.sub_lt_sub_left hlt hjj
  refine cutr_i mixed s47_6 (fun _ w' => w' = w2 ∧ okc c = false ∧ c ≠ 34) (fun (v : ByteArray × Bool × Unit) w' => w' = w2 ∧ v.2.1 = false ∧ M = none) (by kernel_rfl) (by kernel_rfl) (fun g => ?_) ?_ (fun v g w' h => by
   obtain ⟨x,y,⟨⟩⟩ := v
   obtain ⟨rfl,h2,h3⟩ := h
   dsimp only at h2
   subst h2
   exact ⟨(x,false,()),rfl,fun g => bad h3 _ _ hc2⟩)
  ·rw [t47_6]
   have no : okc c = true ∨ c = 34 → M = none := fun h => by
    rw [hMj,hr]
    unfold inB
    rw [if_pos h]
   refine br_both (fun e => ⟨(_,false,()),rfl,rfl,rfl,no (.inl ?_)⟩) fun e1 => br_both (fun e => ⟨(_,false,()),rfl,rfl,rfl,no (.inl ?_)⟩) fun e2 => br_both (fun e => ⟨(_,false,()),rfl,rfl,rfl,no (.inr ?_)⟩) fun e3 => ⟨(),rfl,rfl,?_,?_⟩
   ·have e := lt_t e
    unfold okc
    rw [decide_eq_true (by omega)]; rfl
   ·have e := gt_t e
    unfold okc
    rw [decide_eq_true (show 126 < c.toNat by omega),Bool.or_true]
   ·exact u8_of (d := 34) (eq_t e)
   ·have e1 := lt_f e1
    have e2 := gt_f e2
    unfold okc
    rw [decide_eq_false (by omega),decide_eq_false (by omega)]; rfl
   ·rintro rfl
    exact absurd e3 (by decide)
  rintro ⟨⟩ g w3 ⟨rfl,hok,h34⟩
  rw [hr,inB_cons hok h34] at hMj
  rw [hwj,hwj2]
  refine br_both (fun e => ?_) fun e => ?_
  ·have h92 : ¬ c = 92 := by
    rintro rfl
    exact absurd e (by decide)
   rw [if_neg h92] at hMj
   refine nw fun w6 h6 z6 (b6 : Blk w6 _ [.int .u8 (c.toNat : Int)] tByte) => ?_
   refine ap_b (hR.no h6) (by have := hc2.size; have := h6.size; omega) b6 [c] rfl rfl (by omega) fun q7 c7 w7 g7 => ?_
   exact again q7 c7 (j + 1) f [c] w6 w7 h6 g7 (by omega) hlt (by simp; omega) hrl hMj
  have h92 : c = 92 := by
   have e : ((((c.toNat : Nat)) : Int) != 92) = false := e
   exact u8_of (d := 92) (by simpa using e)
  rw [if_pos h92] at hMj
  refine cutr_i mixed s47_10 (fun _ w' => w' = w3 ∧ j + 1 < pin.size) (fun (v : ByteArray × Bool × Unit) w' => w' = w3 ∧ v.2.1 = false ∧ M = none) (by kernel_rfl) (by kernel_rfl) (fun g => ?_) ?_ (fun v g w' h => by
   obtain ⟨x,y,⟨⟩⟩ := v
   obtain ⟨rfl,h2,h3⟩ := h
   dsimp only at h2
   subst h2
   exact ⟨(x,false,()),rfl,fun g => bad h3 _ _ hc2⟩)
  ·rw [t47_10,hwj,← hpin]
   refine br_both (fun e => ⟨(_,false,()),rfl,rfl,rfl,?_⟩) fun e => ⟨(),rfl,rfl,?_⟩
   ·have e := ge_t e
    rw [hMj,show rest pin (j + 1) = [] from List.eq_nil_of_length_eq_zero (by rw [lenR]; omega)]
    rfl
   ·have e := ge_f e
    omega
  rintro ⟨⟩ g w4 ⟨rfl,hlt1⟩
  refine bi_i (by omega) (by rw [Int.toNat_natCast]; exact hlt1) ?_
  obtain ⟨d,hd⟩ : ∃ d,d = pin[j + 1]'hlt1 := ⟨_,rfl⟩
  rw [show pin[((j + 1 : Nat) : Int).toNat]'hlt1 = d from hd.symm]
  have hr1 : rest pin (j + 1) = d :: rest pin (j + 2) := by rw [hd]; exact pk_rest hlt1
  rw [hr1] at hMj
  unfold escI at hMj
  dsimp only at hMj
  refine cut_i mixed s47_13 (fun (v : Bool × Unit) w' => w' = w4 ∧ v.1 = decide (d = 34 ∨ d = 92)) (by kernel_rfl) (fun g => ?_) ?_
  ·rw [t47_13]
   refine br_both (fun e => ⟨rfl,(_,()),rfl,rfl,?_⟩) fun e => ⟨rfl,(_,()),rfl,rfl,?_⟩
   ·exact (decide_eq_true (.inl (u8_of (d := 34) (eq_t e)))).symm
   ·have e1 : ¬ d = 34 := by
     intro h
     rw [h] at e
     exact absurd e (by decide)
    dsimp only
    by_cases h : d = 92
    ·rw [decide_eq_true (Or.inr h),h]; rfl
    ·rw [decide_eq_false (fun h' => h'.elim e1 h)]
     exact beq_eq_false_iff_ne.2 (fun h' => h (u8_of (d := 92) h'))
  rintro ⟨u,⟨⟩⟩ g w5 ⟨rfl,hu⟩
  dsimp only at hu
  subst hu
  have len2 : (rest pin (j + 2)).length < f := by
   rw [lenR] at hrl ⊢; omega
  refine br_both (fun e => ?_) fun e => ?_
  ·have e := of_decide_eq_true (show decide (d = 34 ∨ d = 92) = true from e)
   rw [if_pos e] at hMj
   refine bi_i (by omega) (by rw [Int.toNat_natCast]; exact hlt1) ?_
   rw [show pin[((j + 1 : Nat) : Int).toNat]'hlt1 = d from hd.symm]
   refine nw fun w6 h6 z6 (b6 : Blk w6 _ [.int .u8 (d.toNat : Int)] tByte) => ?_
   refine ap_b (hR.no h6) (by have := hc2.size; have := h6.size; omega) b6 [d] rfl rfl (by omega) fun q7 c7 w7 g7 => ?_
   exact again q7 c7 (j + 2) f [d] w6 w7 h6 g7 (by omega) (by omega) (by simp; omega) len2 hMj
  have e0 := of_decide_eq_false (show decide (d = 34 ∨ d = 92) = false from e)
  rw [if_neg e0] at hMj
  refine br_both (fun e => ?_) fun e => ?_
  ·have e : d = 110 := u8_of (d := 110) (eq_t e)
   rw [if_pos e] at hMj
   refine nw fun w6 h6 z6 (b6 : Blk w6 _ [.int .u8 10] tByte) => ?_
   refine ap_b (hR.no h6) (by have := hc2.size; have := h6.size; omega) b6 [10] rfl rfl (by omega) fun q7 c7 w7 g7 => ?_
   exact again q7 c7 (j + 2) f [10] w6 w7 h6 g7 (by omega) (by omega) (by simp; omega) len2 hMj
  have e110 : ¬ d = 110 := by
   intro h
   rw [h] at e
   exact absurd e (by decide)
  rw [if_neg e110] at hMj
  refine br_both (fun e => ?_) fun e => ?_
  ·have e : d = 116 := u8_of (d := 116) (eq_t e)
   rw [if_pos e] at hMj
   refine nw fun w6 h6 z6 (b6 : Blk w6 _ [.int .u8 9] tByte) => ?_
   refine ap_b (hR.no h6) (by have := hc2.size; have := h6.size; omega) b6 [9] rfl rfl (by omega) fun q7 c7 w7 g7 => ?_
   exact again q7 c7 (j + 2) f [9] w6 w7 h6 g7 (by omega) (by omega) (by simp; omega) len2 hMj
  have e116 : ¬ d = 116 := by
   intro h
   rw [h] at e
   exact absurd e (by decide)
  rw [if_neg e116] at hMj
  refine br_both (fun e => ?_) fun e => ?_
  ·have e : d = 120 := u8_of (d := 120) (eq_t e)
   rw [if_pos e] at hMj
   have hw3 : IntKind.i64.wrap (((j + 1 : Nat) : Int) + 2) = ((j + 3 : Nat) : Int) := by rw [wrap_in (by omega) (by omega)]; omega
   have hw4 : IntKind.i64.wrap (((j + 3 : Nat) : Int) + 1) = ((j + 4 : Nat) : Int) := wrap_succ (by omega) (by omega)
   refine cutr_i mixed s47_22 (fun _ w' => w' = w5 ∧ j + 3 < pin.size) (fun (v : ByteArray × Bool × Unit) w' => w' = w5 ∧ v.2.1 = false ∧ M = none) (by kernel_rfl) (by kernel_rfl) (fun g => ?_) ?_ (fun v g w' h => by
   obtain ⟨x,y,⟨⟩⟩ := v
   obtain ⟨rfl,h2,h3⟩ := h
   dsimp only at h2
   subst h2
   exact ⟨(x,false,()),rfl,fun g => bad h3 _ _ hc2⟩)
   ·rw [t47_22,hwj,hw3,← hpin]
    refine br_both (fun e => ⟨(_,false,()),rfl,rfl,rfl,?_⟩) fun e => ⟨(),rfl,rfl,?_⟩
    ·have e := ge_t e
     have hl : (rest pin (j + 2)).length ≤ 1 := by
      rw [lenR]; omega
     rw [hMj]
     cases hz : rest pin (j + 2) with
     | nil => rfl
     | cons x r =>
      cases r with
      | nil => rfl
      | cons y r => rw [hz] at hl; simp only [List.length_cons] at hl; omega
    ·have e := ge_f e
     omega
   rintro ⟨⟩ g w6 ⟨rfl,hlt3⟩
   rw [hw3,hw4]
   have hlt2 : j + 2 < pin.size := by omega
   obtain ⟨x,hx⟩ : ∃ x,x = pin[j + 2]'hlt2 := ⟨_,rfl⟩
   obtain ⟨y,hy⟩ : ∃ y,y = pin[j + 3]'hlt3 := ⟨_,rfl⟩
   have hr2 : rest pin (j + 2) = x :: y :: rest pin (j + 4) := by rw [hx,hy,pk_rest hlt2,pk_rest hlt3]
   rw [hr2] at hMj
   refine bi_i (by omega) (by rw [Int.toNat_natCast]; exact hlt2) ?_
   rw [show pin[((j + 2 : Nat) : Int).toNat]'hlt2 = x from hx.symm]
   refine cl_i (hex3_any _ x) ?_
   rintro e' w7 ⟨rfl,rfl⟩
   refine ⟨hexI3 x,rfl,?_⟩
   refine bi_i (by omega) (by rw [Int.toNat_natCast]; exact hlt3) ?_
   rw [show pin[((j + 3 : Nat) : Int).toNat]'hlt3 = y from hy.symm]
   refine cl_i (hex3_any _ y) ?_
   rintro e' w8 ⟨rfl,rfl⟩
   refine ⟨hexI3 y,rfl,?_⟩
   refine cutr_i mixed s47_28 (fun _ w' => w' = w8 ∧ ∃ a b,hexP x.toNat = some a ∧ hexP y.toNat = some b) (fun (v : ByteArray × Bool × Unit) w' => w' = w8 ∧ v.2.1 = false ∧ M = none) (by kernel_rfl) (by kernel_rfl) (fun g => ?_) ?_ (fun v g w' h => by
   obtain ⟨x,y,⟨⟩⟩ := v
   obtain ⟨rfl,h2,h3⟩ := h
   dsimp only at h2
   subst h2
   exact ⟨(x,false,()),rfl,fun g => bad h3 _ _ hc2⟩)
   ·rw [t47_28]
    refine br_both (fun e => ⟨(_,false,()),rfl,rfl,rfl,?_⟩) fun e1 => br_both (fun e => ⟨(_,false,()),rfl,rfl,rfl,?_⟩) fun e2 => ⟨(),rfl,rfl,?_⟩
    ·have e := lt_t e
     cases hq : hexP x.toNat with
     | some a =>
      unfold hexI3 at e
      rw [hq] at e
      dsimp only at e
      omega
     | none =>
      rw [hMj,show hexI (x :: y :: rest pin (j + 4)) = none by unfold hexI; dsimp only; rw [hq]]
    ·have e := lt_t e
     cases hq : hexP x.toNat with
     | none => rw [hMj,show hexI (x :: y :: rest pin (j + 4)) = none by unfold hexI; dsimp only; rw [hq]]
     | some a =>
      cases hq2 : hexP y.toNat with
      | some b =>
       unfold hexI3 at e
       rw [hq2] at e
       dsimp only at e
       omega
      | none => rw [hMj,show hexI (x :: y :: rest pin (j + 4)) = none by unfold hexI; dsimp only; rw [hq,hq2]]
    ·have e1 := lt_f e1
     have e2 := lt_f e2
     cases hq : hexP x.toNat with
     | none =>
      unfold hexI3 at e1
      rw [hq] at e1
      exact absurd e1 (by decide)
     | some a =>
      cases hq2 : hexP y.toNat with
      | none =>
       unfold hexI3 at e2
       rw [hq2] at e2
       exact absurd e2 (by decide)
      | some b => exact ⟨a,b,rfl,rfl⟩
   rintro ⟨⟩ g w9 ⟨rfl,a,b,hq,hq2⟩
   have ha := V.hexP_lt hq
   have hb := V.hexP_lt hq2
   rw [show hexI (x :: y :: rest pin (j + 4)) = some (UInt8.ofNat (a * 16 + b),rest pin (j + 4)) by unfold hexI; dsimp only; rw [hq,hq2]] at hMj
   have hbv : IntKind.u8.wrap (IntKind.i64.wrap (IntKind.i64.wrap (16 * hexI3 x) + hexI3 y)) = (((UInt8.ofNat (a * 16 + b)).toNat : Nat) : Int) := by
    rw [show hexI3 x = (a : Nat) by unfold hexI3; rw [hq],show hexI3 y = (b : Nat) by unfold hexI3; rw [hq2]]
    rw [wrap_in (x := 16 * (a : Int)) (by omega) (by omega),wrap_in (x := 16 * (a : Int) + (b : Int)) (by omega) (by omega),IntKind.wrap_u8',UInt8.toNat_ofNat',Nat.mod_eq_of_lt (by omega)]
    omega
   rw [hbv]
   refine nw fun w10 h6 z6 (b6 : Blk w10 _ [.int .u8 ((UInt8.ofNat (a * 16 + b)).toNat : Int)] tByte) => ?_
   refine ap_b (hR.no h6) (by have := hc2.size; have := h6.size; omega) b6 [UInt8.ofNat (a * 16 + b)] rfl rfl (by omega) fun q7 c7 w11 g7 => ?_
   exact again q7 c7 (j + 4) f [UInt8.ofNat (a * 16 + b)] w10 w11 h6 g7 (by omega) (by omega) (by simp; omega) (by rw [lenR] at len2 ⊢; omega) hMj
  ·have e120 : ¬ d = 120 := by
    intro h
    rw [h] at e
    exact absurd e (by decide)
   rw [if_neg e120] at hMj
   exact ⟨(_,false,()),rfl,fun g => bad hMj _ _ hc2⟩
 ·have e := lt_f e
  have hje : rest pin j = [] := by
   rcases rest_cases pin j hj with ⟨hr,_⟩ | ⟨hlt,_⟩
   ·exact hr
   ·omega
  rw [hje] at hMj
  have hMj : M = some acc := hMj
  refine ⟨rfl,((qb,nb,cb),()),rfl,fun g => ?_⟩
  refine cv_b hR.at ?_
  by_cases h24 : acc.length ≤ 24
  ·refine ⟨hc2,?_⟩
   rw [hmb,hMj]
   unfold capM
   dsimp only
   rw [if_pos h24,decide_eq_true (show ((nb : Nat) : Int) ≤ 24 by omega)]
  ·refine ⟨hc2,?_⟩
   rw [hmb,hMj]
   unfold capM
   dsimp only
   rw [if_neg h24,decide_eq_false (show ¬ ((nb : Nat) : Int) ≤ 24 by omega)]
   exact ⟨_,rfl⟩
end Go.Proofs.YtmdmomccibpjbaaGreatDoor.E
namespace Go.Proofs.YtmdmomccibpjbaaGreatDoor.E
open Go Tr
open V (rest rest_cases restL sizeB pk_rest cx_i cp_i extract_list pk hexP)
set_option maxRecDepth 100000
set_option maxHeartbeats 2000000
def tenS : List UInt8 := [43,45,42,47,37,40,41,91,93,44]
/-- How long the sign is that begins here; 0: none does. -/
def signN (c : UInt8) (eq : Bool) : Nat := if c ∈ tenS then 1 else if c = 60 ∨ c = 62 then (if eq = true then 2 else 1) else if c = 61 ∨ c = 33 then (if eq = true then 2 else 0) else 0
def eqAt : Txt → Bool
 | [] => false
 | c :: _ => decide (c = 61)
theorem sign_two (s0 s1 c : UInt8) (r : Txt) : List.isPrefixOf [s0,s1] (c :: r) = (s0 == c && (match r with
  | [] => false
  | d :: _ => s1 == d)) := by
 cases r with
 | nil => simp [List.isPrefixOf]
 | cons d r => simp [List.isPrefixOf]
theorem sign_one (s0 c : UInt8) (r : Txt) : List.isPrefixOf [s0] (c :: r) = (s0 == c) := by simp [List.isPrefixOf]
theorem sign_eq (s0 c : UInt8) (r : Txt) : List.isPrefixOf [s0,61] (c :: r) = (s0 == c && eqAt r) := by
 rw [sign_two]
 cases r with
 | nil => rfl
 | cons d r =>
  unfold eqAt
  congr 1
  rw [Bool.eq_iff_iff,beq_iff_eq,decide_eq_true_eq]
  exact eq_comm
theorem sign_law (c : UInt8) (r : Txt) : signB (c :: r) = if signN c (eqAt r) = 0 then none else some ((c :: r).take (signN c (eqAt r))) := by
 have hu : signB (c :: r) = (List.find? (fun p => p.2) [(sLe,(60 == c && eqAt r)),(sGe,(62 == c && eqAt r)),(sEq,(61 == c && eqAt r)),(sNe,(33 == c && eqAt r)),(sPlus,43 == c),(sMinus,45 == c),(sMul,42 == c),(sDiv,47 == c),(sMod,37 == c),(sLp,40 == c),(sRp,41 == c),(sLb,91 == c),(sRb,93 == c),(sCom,44 == c),(sLt,60 == c),(sGt,62 == c)]).map (·.1) := by
  unfold signB signsM
  simp only [List.find?_cons,sLe,sGe,sEq,sNe,sPlus,sMinus,sMul,sDiv,sMod,sLp,sRp,sLb,sRb,sCom,sLt,sGt,sign_eq,sign_one,List.find?_nil]
  generalize eqAt r = q
  repeat' (split <;> try rfl)
 have ht : eqAt r = true → (c :: r).take 2 = [c,61] := fun h => by
  cases r with
  | nil => cases h
  | cons d r =>
   have h := of_decide_eq_true (show decide (d = 61) = true from h)
   rw [h]; rfl
 have h1 : (c :: r).take 1 = [c] := rfl
 rw [hu]
 clear hu
 generalize eqAt r = q at *
 by_cases hm : c ∈ ([43,45,42,47,37,40,41,91,93,44,60,62,61,33] : List UInt8)
 ·simp only [List.mem_cons,List.not_mem_nil,or_false] at hm
  rcases hm with rfl | rfl | rfl | rfl | rfl | rfl | rfl | rfl | rfl | rfl | rfl | rfl | rfl | rfl
  all_goals
   cases q with
   | false => first | exact congrArg some h1.symm | rfl
   | true => first | exact congrArg some (ht rfl).symm | exact congrArg some h1.symm
 ·simp only [List.mem_cons,List.not_mem_nil,or_false,not_or] at hm
  obtain ⟨a1,a2,a3,a4,a5,a6,a7,a8,a9,a10,a11,a12,a13,a14⟩ := hm
  have hn : signN c q = 0 := by
   unfold signN
   rw [if_neg (by simp [tenS, *]),if_neg (by simp [*]),if_neg (by simp [*])]
  rw [hn,if_pos rfl]
  have f : ∀ x : UInt8,c ≠ x → (x == c) = false := fun x h => beq_eq_false_iff_ne.2 (fun e => h e.symm)
  simp only [f _ a1,f _ a2,f _ a3,f _ a4,f _ a5,f _ a6,f _ a7,f _ a8,f _ a9,f _ a10,f _ a11,f _ a12,f _ a13,f _ a14,Bool.false_and]
  rfl
end Go.Proofs.YtmdmomccibpjbaaGreatDoor.E
