/- The document's reader: inside, behind. -/
import Derived.Test.YtjlmkahagcojcaaGreatDoorXi
namespace Go.Proofs.YtjlmkahagcojcaaGreatDoor.V
open Go Tr
set_option maxRecDepth 100000
/-! the tree of function 138 -/
abbrev fx138_1 (qa0 : Addr) : List (Tmp × Value) := [(0, .pointer (some qa0))]
abbrev mx138_1 : List (Tmp × Comp) := []
def s138_1 : Script := .hd0 (.hq 0 (.hq 1 (.hq 2 (.hq 3 (.hq 5 (.hq 6 (.hq 7 (.hl 4 (.ld .str (.he 8 (.ld (.int .i64) (.he 9 (.cl (.one (.leaf (.int .i64))) (.hq 10 (.hq 11 (.he 12 .nil)))))))) (.hl 8 (.ld (.int .i64) (.he 4 (.ld .str (.he 9 (.cl (.one (.leaf (.int .i64))) (.hq 10 (.hq 11 (.he 12 .nil)))))))) .nil)))))))))
theorem t138_1 (qa0 : Addr) (gg1 : Nat → Value) : pieceT Tryz.prog (at_ Tryz.f138 [1, 0]) 76 (fx138_1 qa0) gg1 (mx138_1.map (·.1)) [] [] s138_1 = .hdrawn (.both (.eff (.load qa0 .str (fun s2 => .back (.eff (.load (qa0.add 1) (.int .i64) (fun x3 => .back (.eff (.call 114 #[.string s2, .int .i64 x3] (.one (.leaf (.int .i64))) (fun x4 => .back (.eff (.store (qa0.add 1) (.int .i64 x4) (.back (.undrawn (.fin .normal [])))))))))))))) (.both (.eff (.load (qa0.add 1) (.int .i64) (fun x5 => .back (.eff (.load qa0 .str (fun s6 => .back (.eff (.call 114 #[.string s6, .int .i64 x5] (.one (.leaf (.int .i64))) (fun x7 => .back (.eff (.store (qa0.add 1) (.int .i64 x7) (.back (.undrawn (.fin .normal [])))))))))))))) (.triv))) := by kernel_rfl
abbrev fx138_9 (qa0 : Addr) : List (Tmp × Value) := [(0, .pointer (some qa0))]
abbrev mx138_9 : List (Tmp × Comp) := [(36, .leaf .bool)]
def s138_9 : Script := .qt (.ld (.int .i64) (.ld .str (.sym (.lit (.lit (.lit (.ld .str (.lit (.lit (.lit (.lit (.ld (.int .i64) (.lit (.ix (.lit (.lit .nil))))))))))))) (.lit (.lit (.lit (.lit (.lit (.lit (.lit (.lit (.lit (.lit .nil)))))))))))))
theorem t138_9 (qa0 : Addr) (gg9 : Nat → Value) : pieceT Tryz.prog (at_ Tryz.f138 [1, 1, 0, 0]) 76 (fx138_9 qa0) gg9 (mx138_9.map (·.1)) [] [] s138_9 = .drawn (.load (qa0.add 1) (.int .i64) (fun x10 => .load qa0 .str (fun s11 => .br (Decidable.decide (x10 < (↑s11.size : Int))) (.load qa0 .str (fun s12 => .load (qa0.add 1) (.int .i64) (fun x13 => .bidx s12 x13 (fun c14 => .undrawn (.fin .normal [(36, .bool (c14 == 93))]))))) (.undrawn (.fin .normal [(36, .bool false)]))))) := by kernel_rfl
abbrev fx138_17 (qa0 : Addr) : List (Tmp × Value) := [(0, .pointer (some qa0))]
abbrev mx138_17 : List (Tmp × Comp) := []
def s138_17 : Script := .hd0 (.hq 0 (.hq 1 (.hq 2 (.hq 3 (.hq 5 (.hq 6 (.hq 7 (.hl 4 (.ld .sl (.he 8 (.ld .sl (.hq 9 (.hq 10 (.hq 11 (.nd (.hq 12 (.hq 13 (.he 14 .nil)))))))))) (.hl 8 (.ld .sl (.hq 9 (.hq 10 (.he 4 (.ld .sl (.hq 11 (.nd (.hq 12 (.hq 13 (.he 14 .nil)))))))))) .nil)))))))))
theorem t138_17 (qa0 : Addr) (gg17 : Nat → Value) : pieceT Tryz.prog (at_ Tryz.f138 [1, 1, 0, 1, 0, 1, 0]) 76 (fx138_17 qa0) gg17 (mx138_17.map (·.1)) [] [] s138_17 = .hdrawn (.both (.eff (.load (qa0.add 3) .sl (fun l18 => .back (.eff (.load (qa0.add 3) .sl (fun l19 => .back (.need (Decidable.decide (Int.ofNat 0 ≤ 0 ∧ 0 ≤ IntKind.i64.wrap ((↑l19.snd.fst : Int) - 1) ∧ IntKind.i64.wrap ((↑l19.snd.fst : Int) - 1) ≤ (↑l18.snd.snd : Int))) (.eff (.store (qa0.add 3) (.slice (if l18.snd.snd = 0 then l18.fst else Option.map (fun q ↦ q.add (0 * 1)) l18.fst) ((IntKind.i64.wrap ((↑l19.snd.fst : Int) - 1)).toNat - 0) (l18.snd.snd - 0)) (.back (.undrawn (.fin .normal [])))))))))))) (.both (.eff (.load (qa0.add 3) .sl (fun l20 => .back (.eff (.load (qa0.add 3) .sl (fun l21 => .back (.need (Decidable.decide (Int.ofNat 0 ≤ 0 ∧ 0 ≤ IntKind.i64.wrap ((↑l20.snd.fst : Int) - 1) ∧ IntKind.i64.wrap ((↑l20.snd.fst : Int) - 1) ≤ (↑l21.snd.snd : Int))) (.eff (.store (qa0.add 3) (.slice (if l21.snd.snd = 0 then l21.fst else Option.map (fun q ↦ q.add (0 * 1)) l21.fst) ((IntKind.i64.wrap ((↑l20.snd.fst : Int) - 1)).toNat - 0) (l21.snd.snd - 0)) (.back (.undrawn (.fin .normal [])))))))))))) (.triv))) := by kernel_rfl
abbrev fx138_23 (qa0 : Addr) : List (Tmp × Value) := [(0, .pointer (some qa0))]
abbrev mx138_23 : List (Tmp × Comp) := []
def s138_23 : Script := .hd0 (.hq 0 (.hq 1 (.hq 2 (.hq 3 (.ld .sl (.hq 4 (.hq 5 (.hq 6 (.hq 7 (.ld .sl (.hq 8 (.hq 9 (.hq 10 (.hq 11 (.ld .sl (.hq 12 (.hq 13 (.hq 14 (.ix (.hq 15 (.ld (.int .i64) (.hq 16 (.ix (.hq 17 (.he 18 .nil)))))))))))))))))))))))))
theorem t138_23 (qa0 : Addr) (gg23 : Nat → Value) : pieceT Tryz.prog (at_ Tryz.f138 [1, 1, 1, 0]) 76 (fx138_23 qa0) gg23 (mx138_23.map (·.1)) [] [] s138_23 = .hdrawn (.load (qa0.add 2) .sl (fun l24 => .load (qa0.add 3) .sl (fun l25 => .load (qa0.add 3) .sl (fun l26 => .idx l25.1 (IntKind.i64.wrap ((↑l26.snd.fst : Int) - 1)) l25.2.1 1 (fun a27 => .load a27 (.int .i64) (fun x28 => .idx l24.1 x28 l24.2.1 4 (fun a29 => .eff (.store (a29.add 3) (.int .i64 1) (.back (.undrawn (.fin .normal []))))))))))) := by kernel_rfl
def s138 : Script := .ct 1 [0] mx138_1 (.ct 1 [0] mx138_9 (.sym (.ld (.int .i64) (.ct 0 [0] mx138_17 .nil)) (.ct 0 [0] mx138_23 .nil)))
theorem t138 (qa0 : Addr) : fnT Tryz.prog Tryz.f138 #[.pointer (some qa0)] s138 = .cut (at_ Tryz.f138 [1, 0]) 76 (fx138_1 qa0) mx138_1 (fun u8 g8 => .cut (at_ Tryz.f138 [1, 1, 0, 0]) 76 (fx138_9 qa0) mx138_9 (fun u15 g15 => .br u15.1 (.load (qa0.add 1) (.int .i64) (fun x16 => .store (qa0.add 1) (.int .i64 (IntKind.i64.wrap (x16 + 1))) (.cut (at_ Tryz.f138 [1, 1, 0, 1, 0, 1, 0]) 76 (fx138_17 qa0) mx138_17 (fun u22 g22 => .done (.returned (.bool true)))))) (.cut (at_ Tryz.f138 [1, 1, 1, 0]) 76 (fx138_23 qa0) mx138_23 (fun u30 g30 => .done (.returned (.bool false)))))) := by kernel_rfl
/-! the tree of function 139 -/
abbrev fx139_1 (qa0 : Addr) : List (Tmp × Value) := [(0, .pointer (some qa0))]
abbrev m139_1 : List (Tmp × Comp) := []
abbrev mx139_1 : List (Tmp × Comp) := []
abbrev mr139_1 : List (Tmp × Comp) := [(2, .leaf .bool)]
abbrev fx139_3 (qa0 : Addr) : List (Tmp × Value) := [(0, .pointer (some qa0))]
abbrev mx139_3 : List (Tmp × Comp) := []
def s139_3 : Script := .hd0 (.hq 0 (.hq 1 (.hq 2 (.hq 3 (.hq 5 (.hq 6 (.hq 7 (.hl 4 (.ld .str (.he 8 (.ld (.int .i64) (.he 9 (.cl (.one (.leaf (.int .i64))) (.hq 10 (.hq 11 (.he 12 .nil)))))))) (.hl 8 (.ld (.int .i64) (.he 4 (.ld .str (.he 9 (.cl (.one (.leaf (.int .i64))) (.hq 10 (.hq 11 (.he 12 .nil)))))))) .nil)))))))))
theorem t139_3 (qa0 : Addr) (gg3 : Nat → Value) : pieceT Tryz.prog (at_ Tryz.f139 [1, 0, 0, 0, 1, 0, 0]) 144 (fx139_3 qa0) gg3 (mx139_3.map (·.1)) [] [] s139_3 = .hdrawn (.both (.eff (.load qa0 .str (fun s4 => .back (.eff (.load (qa0.add 1) (.int .i64) (fun x5 => .back (.eff (.call 114 #[.string s4, .int .i64 x5] (.one (.leaf (.int .i64))) (fun x6 => .back (.eff (.store (qa0.add 1) (.int .i64 x6) (.back (.undrawn (.fin .normal [])))))))))))))) (.both (.eff (.load (qa0.add 1) (.int .i64) (fun x7 => .back (.eff (.load qa0 .str (fun s8 => .back (.eff (.call 114 #[.string s8, .int .i64 x7] (.one (.leaf (.int .i64))) (fun x9 => .back (.eff (.store (qa0.add 1) (.int .i64 x9) (.back (.undrawn (.fin .normal [])))))))))))))) (.triv))) := by kernel_rfl
abbrev fx139_11 (qa0 : Addr) : List (Tmp × Value) := [(0, .pointer (some qa0))]
abbrev mx139_11 : List (Tmp × Comp) := [(55, .leaf .bool)]
def s139_11 : Script := .qt (.ld (.int .i64) (.ld .str (.sym (.lit (.lit (.lit (.lit (.lit (.lit (.lit (.lit (.lit (.lit (.lit (.lit .nil)))))))))))) (.lit (.lit (.lit (.ld .str (.lit (.lit (.lit (.lit (.ld (.int .i64) (.lit (.ix (.lit (.lit (.sym (.lit (.lit (.lit (.ld .str (.lit (.lit (.lit (.lit (.ld (.int .i64) (.lit (.ix (.lit (.lit (.lit (.lit .nil))))))))))))))) (.lit (.lit (.lit (.lit (.lit (.lit (.lit (.lit (.lit (.lit (.lit (.lit .nil)))))))))))))))))))))))))))))
theorem t139_11 (qa0 : Addr) (gg11 : Nat → Value) : pieceT Tryz.prog (at_ Tryz.f139 [1, 0, 0, 0, 1, 0, 1, 0, 0]) 144 (fx139_11 qa0) gg11 (mx139_11.map (·.1)) [] [] s139_11 = .drawn (.load (qa0.add 1) (.int .i64) (fun x12 => .load qa0 .str (fun s13 => .br (Decidable.decide (x12 ≥ (↑s13.size : Int))) (.undrawn (.fin .normal [(55, .bool true)])) (.load qa0 .str (fun s14 => .load (qa0.add 1) (.int .i64) (fun x15 => .bidx s14 x15 (fun c16 => .br (c16 != 93) (.load qa0 .str (fun s17 => .load (qa0.add 1) (.int .i64) (fun x18 => .bidx s17 x18 (fun c19 => .undrawn (.fin .normal [(55, .bool (c19 != 44))]))))) (.undrawn (.fin .normal [(55, .bool false)]))))))))) := by kernel_rfl
abbrev fx139_23 (qa0 : Addr) : List (Tmp × Value) := [(0, .pointer (some qa0))]
abbrev mx139_23 : List (Tmp × Comp) := [(3, .leaf (.int .i64))]
def s139_23 : Script := .qt (.ld .sl (.ld .sl (.ix (.ld (.int .i64) .nil))))
theorem t139_23 (qa0 : Addr) (gg23 : Nat → Value) : pieceT Tryz.prog (at_ Tryz.f139 [1, 0, 0, 0, 1, 0, 1, 1, 0]) 144 (fx139_23 qa0) gg23 (mx139_23.map (·.1)) [] [] s139_23 = .drawn (.load (qa0.add 3) .sl (fun l24 => .load (qa0.add 3) .sl (fun l25 => .idx l24.1 (IntKind.i64.wrap ((↑l25.snd.fst : Int) - 1)) l24.2.1 1 (fun a26 => .load a26 (.int .i64) (fun x27 => .undrawn (.fin .normal [(3, .int .i64 x27)])))))) := by kernel_rfl
abbrev fx139_29 (qa0 : Addr) (u28 : Int × Unit) : List (Tmp × Value) := [(0, .pointer (some qa0)), (3, .int .i64 u28.1)]
abbrev mx139_29 : List (Tmp × Comp) := [(83, .leaf .bool)]
def s139_29 : Script := .qt (.ld .str (.ld (.int .i64) (.ix .nil)))
theorem t139_29 (qa0 : Addr) (u28 : Int × Unit) (gg29 : Nat → Value) : pieceT Tryz.prog (at_ Tryz.f139 [1, 0, 0, 0, 1, 0, 1, 1, 1, 0, 0]) 144 (fx139_29 qa0 u28) gg29 (mx139_29.map (·.1)) [] [] s139_29 = .drawn (.load qa0 .str (fun s30 => .load (qa0.add 1) (.int .i64) (fun x31 => .bidx s30 x31 (fun c32 => .undrawn (.fin .normal [(83, .bool (c32 == 44))]))))) := by kernel_rfl
abbrev fx139_43 (qa0 : Addr) : List (Tmp × Value) := [(0, .pointer (some qa0))]
abbrev mx139_43 : List (Tmp × Comp) := []
def s139_43 : Script := .hd0 (.hq 0 (.hq 1 (.hq 2 (.hq 3 (.hq 5 (.hq 6 (.hq 7 (.hl 4 (.ld .str (.he 8 (.ld (.int .i64) (.hq 9 (.he 10 (.cl (.one (.leaf (.int .i64))) (.hq 11 (.hq 12 (.he 13 .nil))))))))) (.hl 8 (.ld (.int .i64) (.hq 9 (.he 4 (.ld .str (.he 10 (.cl (.one (.leaf (.int .i64))) (.hq 11 (.hq 12 (.he 13 .nil))))))))) .nil)))))))))
theorem t139_43 (qa0 : Addr) (gg43 : Nat → Value) : pieceT Tryz.prog (at_ Tryz.f139 [1, 0, 0, 0, 1, 0, 1, 1, 1, 0, 1, 0, 1, 1, 0]) 144 (fx139_43 qa0) gg43 (mx139_43.map (·.1)) [] [] s139_43 = .hdrawn (.both (.eff (.load qa0 .str (fun s44 => .back (.eff (.load (qa0.add 1) (.int .i64) (fun x45 => .back (.eff (.call 114 #[.string s44, .int .i64 (IntKind.i64.wrap (x45 + 1))] (.one (.leaf (.int .i64))) (fun x46 => .back (.eff (.store (qa0.add 1) (.int .i64 x46) (.back (.undrawn (.fin .normal [])))))))))))))) (.both (.eff (.load (qa0.add 1) (.int .i64) (fun x47 => .back (.eff (.load qa0 .str (fun s48 => .back (.eff (.call 114 #[.string s48, .int .i64 (IntKind.i64.wrap (x47 + 1))] (.one (.leaf (.int .i64))) (fun x49 => .back (.eff (.store (qa0.add 1) (.int .i64 x49) (.back (.undrawn (.fin .normal [])))))))))))))) (.triv))) := by kernel_rfl
def s139_1 : Script := .ld .sl (.sym (.ct 0 [0] mx139_3 (.ct 1 [0] mx139_11 (.sym (.ld (.int .i64) (.cl (.tup []) .nil)) (.ct 0 [0] mx139_23 (.ct 1 [0, 3] mx139_29 (.sym (.ld .sl (.ix (.ld (.int .i64) (.sym (.ld (.int .i64) (.cl (.tup []) .nil)) (.ld .sl (.ix (.ld (.int .i64) (.ix (.ct 0 [0] mx139_43 .nil))))))))) (.ld (.int .i64) (.hd0 (.hq 0 (.hq 1 (.hq 2 (.hq 3 (.hq 5 (.hq 6 (.hq 7 (.hl 4 (.ld .sl (.he 8 (.ld .sl (.hq 9 (.hq 10 (.hq 11 (.nd (.hq 12 (.hq 13 (.he 14 .nil)))))))))) (.hl 8 (.ld .sl (.hq 9 (.hq 10 (.he 4 (.ld .sl (.hq 11 (.nd (.hq 12 (.hq 13 (.he 14 .nil)))))))))) .nil))))))))))))))))) .nil)
theorem t139_1 (qa0 : Addr) (gg1 : Nat → Value) : pieceT Tryz.prog (at_ Tryz.f139 [1, 0, 0, 0]) 144 (fx139_1 qa0 ++ mvals m139_1 (())) gg1 (m139_1.map (·.1)) (mx139_1.map (·.1)) (mr139_1.map (·.1)) s139_1 = .load (qa0.add 3) .sl (fun l2 => .br (Decidable.decide ((↑l2.snd.fst : Int) > 0)) (.cut (at_ Tryz.f139 [1, 0, 0, 0, 1, 0, 0]) 144 (fx139_3 qa0) mx139_3 (fun u10 g10 => .cut (at_ Tryz.f139 [1, 0, 0, 0, 1, 0, 1, 0, 0]) 144 (fx139_11 qa0) mx139_11 (fun u20 g20 => .br u20.1 (.load (qa0.add 1) (.int .i64) (fun x21 => .call 161 #[.pointer (some qa0), .int .i64 28, .int .i64 x21] (.tup []) (fun r22 => .fin .ret [(2, .bool true)]))) (.cut (at_ Tryz.f139 [1, 0, 0, 0, 1, 0, 1, 1, 0]) 144 (fx139_23 qa0) mx139_23 (fun u28 g28 => .cut (at_ Tryz.f139 [1, 0, 0, 0, 1, 0, 1, 1, 1, 0, 0]) 144 (fx139_29 qa0 u28) mx139_29 (fun u33 g33 => .br u33.1 (.load (qa0.add 2) .sl (fun l34 => .idx l34.1 u28.1 l34.2.1 4 (fun a35 => .load (a35.add 3) (.int .i64) (fun x36 => .br (x36 == 6) (.load (qa0.add 1) (.int .i64) (fun x37 => .call 161 #[.pointer (some qa0), .int .i64 22, .int .i64 x37] (.tup []) (fun r38 => .fin .ret [(2, .bool true)]))) (.load (qa0.add 2) .sl (fun l39 => .idx l39.1 u28.1 l39.2.1 4 (fun a40 => .load (a40.add 3) (.int .i64) (fun x41 => .idx l39.1 u28.1 l39.2.1 4 (fun a42 => .store (a42.add 3) (.int .i64 (IntKind.i64.wrap (x41 + 1))) (.cut (at_ Tryz.f139 [1, 0, 0, 0, 1, 0, 1, 1, 1, 0, 1, 0, 1, 1, 0]) 144 (fx139_43 qa0) mx139_43 (fun u50 g50 => .fin .ret [(2, .bool true)]))))))))))) (.load (qa0.add 1) (.int .i64) (fun x51 => .store (qa0.add 1) (.int .i64 (IntKind.i64.wrap (x51 + 1))) (.hdrawn (.both (.eff (.load (qa0.add 3) .sl (fun l52 => .back (.eff (.load (qa0.add 3) .sl (fun l53 => .back (.need (Decidable.decide (Int.ofNat 0 ≤ 0 ∧ 0 ≤ IntKind.i64.wrap ((↑l53.snd.fst : Int) - 1) ∧ IntKind.i64.wrap ((↑l53.snd.fst : Int) - 1) ≤ (↑l52.snd.snd : Int))) (.eff (.store (qa0.add 3) (.slice (if l52.snd.snd = 0 then l52.fst else Option.map (fun q ↦ q.add (0 * 1)) l52.fst) ((IntKind.i64.wrap ((↑l53.snd.fst : Int) - 1)).toNat - 0) (l52.snd.snd - 0)) (.back (.undrawn (.fin .normal [])))))))))))) (.both (.eff (.load (qa0.add 3) .sl (fun l54 => .back (.eff (.load (qa0.add 3) .sl (fun l55 => .back (.need (Decidable.decide (Int.ofNat 0 ≤ 0 ∧ 0 ≤ IntKind.i64.wrap ((↑l54.snd.fst : Int) - 1) ∧ IntKind.i64.wrap ((↑l54.snd.fst : Int) - 1) ≤ (↑l55.snd.snd : Int))) (.eff (.store (qa0.add 3) (.slice (if l55.snd.snd = 0 then l55.fst else Option.map (fun q ↦ q.add (0 * 1)) l55.fst) ((IntKind.i64.wrap ((↑l54.snd.fst : Int) - 1)).toNat - 0) (l55.snd.snd - 0)) (.back (.undrawn (.fin .normal [])))))))))))) (.triv)))))))))))) (.fin (.exit 0) [])) := by kernel_rfl
def s139 : Script := .lp 0 [0] [] mx139_1 mr139_1 .nil .nil
theorem t139 (qa0 : Addr) : fnT Tryz.prog Tryz.f139 #[.pointer (some qa0)] s139 = .loop (at_ Tryz.f139 [1, 0, 0, 0]) 144 (fx139_1 qa0) [] mx139_1 mr139_1 0 (fun u56 g56 => .done (.returned (.bool false))) (fun u57 g57 => .done (.returned (.bool u57.1))) := by kernel_rfl
section
variable {B : Nat} {w : World} {nd : Nat} {s : ByteArray} {i : Nat} {P : List PartM} {O : List Nat} {q : Option Addr} {t d : Nat} {q2 : Option Addr} {t2 d2 : Nat} {R : Ending → World → Prop} {Q : Exit → List (Tmp × Value) → World → Prop}
/-- r.at = blanks(r.s, ..). -/
theorem blr_i {K : T} (f : Int → Int) (i1 : Nat) (hf : f i = i1) (hi1 : i1 ≤ s.size) (D : MSx B w nd s i P O q t d q2 t2 d2)
    (h : ∀ w' j, Ch (B ≤ ·) w w' → MSx B w' nd s j P O q t d q2 t2 d2 → rest s j = blanksM (rest s i1) → wpT Tryz.prog R Q K .pl w') :
    wpT Tryz.prog R Q (.hdrawn (.both
      (.eff (.load ⟨nd, 0, none⟩ .str (fun s2 => .back (.eff (.load ⟨nd, 1, none⟩ (.int .i64) (fun x3 => .back (.eff (.call 114 #[.string s2, .int .i64 (f x3)] (.one (.leaf (.int .i64))) (fun x4 => .back (.eff (.store ⟨nd, 1, none⟩ (.int .i64 x4) (.back (.undrawn K)))))))))))))
      (.both
      (.eff (.load ⟨nd, 1, none⟩ (.int .i64) (fun x5 => .back (.eff (.load ⟨nd, 0, none⟩ .str (fun s6 => .back (.eff (.call 114 #[.string s6, .int .i64 (f x5)] (.one (.leaf (.int .i64))) (fun x7 => .back (.eff (.store ⟨nd, 1, none⟩ (.int .i64 x7) (.back (.undrawn K)))))))))))))
      .triv))) .pl w := by
  refine hd_i (fun _ => True) trivial ?_
  have Dd := D.no (Ch.refl No _).drew
  have cd : Ch (B ≤ ·) w w.drew := (Ch.refl _ _).drew
  have fin : wpT Tryz.prog R Q (.call 114 #[.string s, .int .i64 (f i)] (.one (.leaf (.int .i64))) (fun x4 => .back (.eff (.store ⟨nd, 1, none⟩ (.int .i64 x4) (.back (.undrawn K)))))) (.ef fun _ => True) w.drew := by
    rw [hf]
    refine cl_i (mblanks_any s i1 w.drew D.ok.big hi1) ?_
    rintro e w1 ⟨j, rfl, rfl, hj, hr⟩
    exact ⟨(j : Int), rfl, bk trivial (eff_i (Dd.set hj fun w2 h2 D2 => bk trivial (un_h (h w2 j (cd.trans (Dd.up h2)) D2 hr))))⟩
  refine ⟨?_, ?_, trivial⟩
  · exact eff_i (ld_str (Dd.blk.cell 0) (bk trivial (eff_i (ld_int (Dd.blk.cell 1) (bk trivial (eff_i fin))))))
  · exact eff_i (ld_int (Dd.blk.cell 1) (bk trivial (eff_i (ld_str (Dd.blk.cell 0) (bk trivial (eff_i fin))))))
theorem natCells_take (O : List Nat) (m : Nat) : (natCells O).take (m * 1) = natCells (O.take m) := by
  rw [Nat.mul_one]; simp [natCells]
theorem MSx.pop (D : MSx B w nd s i P O q t d q2 t2 d2) {w' : World} (h : Ch (· = nd) w w') (hb : Blk w' nd [.string s, .int .i64 i, .slice q t d, .slice q2 (t2 - 1) d2, .int .i64 0] tMR) : MSx B w' nd s i P O.dropLast q t d q2 (t2 - 1) d2 := by
  refine ⟨hb, (D.rows h).1, ?_, D.lo, { D.ok with o3 := by have := D.ok.o3; simp; omega }⟩
  have := Row.take (D.rows h).2 (m := t2 - 1) (by omega)
  rw [natCells_take, D.t2_is, ← List.dropLast_eq_take] at this
  rw [D.t2_is]
  exact this
/-- r.open = r.open[:len(r.open)-1]. -/
theorem pop_i {K : T} (D : MSx B w nd s i P O q t d q2 t2 d2) (hO : O ≠ [])
    (h : ∀ w', Ch (B ≤ ·) w w' → MSx B w' nd s i P O.dropLast q t d q2 (t2 - 1) d2 → wpT Tryz.prog R Q K .pl w') :
    wpT Tryz.prog R Q (.hdrawn (.both
      (.eff (.load ⟨nd, 3, none⟩ .sl (fun l18 => .back (.eff (.load ⟨nd, 3, none⟩ .sl (fun l19 => .back
        (.need (Decidable.decide (Int.ofNat 0 ≤ 0 ∧ 0 ≤ IntKind.i64.wrap ((↑l19.snd.fst : Int) - 1) ∧ IntKind.i64.wrap ((↑l19.snd.fst : Int) - 1) ≤ (↑l18.snd.snd : Int)))
          (.eff (.store ⟨nd, 3, none⟩ (.slice (if l18.snd.snd = 0 then l18.fst else Option.map (fun q ↦ q.add (0 * 1)) l18.fst) ((IntKind.i64.wrap ((↑l19.snd.fst : Int) - 1)).toNat - 0) (l18.snd.snd - 0)) (.back (.undrawn K)))))))))))
      (.both
      (.eff (.load ⟨nd, 3, none⟩ .sl (fun l20 => .back (.eff (.load ⟨nd, 3, none⟩ .sl (fun l21 => .back
        (.need (Decidable.decide (Int.ofNat 0 ≤ 0 ∧ 0 ≤ IntKind.i64.wrap ((↑l20.snd.fst : Int) - 1) ∧ IntKind.i64.wrap ((↑l20.snd.fst : Int) - 1) ≤ (↑l21.snd.snd : Int)))
          (.eff (.store ⟨nd, 3, none⟩ (.slice (if l21.snd.snd = 0 then l21.fst else Option.map (fun q ↦ q.add (0 * 1)) l21.fst) ((IntKind.i64.wrap ((↑l20.snd.fst : Int) - 1)).toNat - 0) (l21.snd.snd - 0)) (.back (.undrawn K)))))))))))
      .triv))) .pl w := by
  refine hd_i (fun _ => True) trivial ?_
  have Dd := D.no (Ch.refl No _).drew
  have cd : Ch (B ≤ ·) w w.drew := (Ch.refl _ _).drew
  have ht2 := D.t2_is
  have h0 : 0 < t2 := by rw [ht2]; exact List.length_pos_iff.2 hO
  have ho3 := D.ok.o3
  have hcap := Row.cap D.opn
  obtain ⟨g, hq, _, _⟩ := Row.get D.opn h0
  have hw1 : IntKind.i64.wrap ((t2 : Int) - 1) = ((t2 - 1 : Nat) : Int) := by rw [wrap_in (by omega) (by omega)]; omega
  have hv : Value.slice (if d2 = 0 then q2 else Option.map (fun q => q.add (0 * 1)) q2) (((t2 - 1 : Nat) : Int).toNat - 0) (d2 - 0) = .slice q2 (t2 - 1) d2 := by
    rw [hq, Int.toNat_natCast, Nat.sub_zero, Nat.sub_zero]
    simp only [Option.map_some, addr_add, Nat.mul_one, Nat.zero_add, ite_self]
  have stp : wpT Tryz.prog R Q (.need (Decidable.decide (Int.ofNat 0 ≤ 0 ∧ 0 ≤ IntKind.i64.wrap ((t2 : Int) - 1) ∧ IntKind.i64.wrap ((t2 : Int) - 1) ≤ (d2 : Int)))
      (.eff (.store ⟨nd, 3, none⟩ (.slice (if d2 = 0 then q2 else Option.map (fun q ↦ q.add (0 * 1)) q2) ((IntKind.i64.wrap ((t2 : Int) - 1)).toNat - 0) (d2 - 0)) (.back (.undrawn K))))) (.he fun _ => True) w.drew := by
    rw [hw1, hv]
    refine nd3 (by decide) (by omega) (by omega) (eff_i (st_blk Dd.blk (by simp) rfl fun w2 h2 z2 b2 => bk trivial (un_h (h w2 (cd.trans (Dd.up h2)) (Dd.pop h2 b2)))))
  refine ⟨?_, ?_, trivial⟩
  · exact eff_i (ld_sl (Dd.blk.cell 3) (bk trivial (eff_i (ld_sl (Dd.blk.cell 3) (bk trivial stp)))))
  · exact eff_i (ld_sl (Dd.blk.cell 3) (bk trivial (eff_i (ld_sl (Dd.blk.cell 3) (bk trivial stp)))))
/-- The number of the innermost open list. -/
theorem MSx.top (D : MSx B w nd s i P O q t d q2 t2 d2) (hO : O ≠ []) : ∃ g, q2 = some ⟨g, 0, none⟩ ∧ rowS q2 t2 d2 g ∧ w.cell? ⟨g, t2 - 1, none⟩ = some (.int .i64 ((topO O : Nat) : Int)) ∧ 0 < t2 := by
  have ht2 := D.t2_is
  have h0 : 0 < t2 := by rw [ht2]; exact List.length_pos_iff.2 hO
  obtain ⟨g, hq, hg, hc⟩ := Row.get D.opn h0
  refine ⟨g, hq, hg, hc _ _ ?_, h0⟩
  have hl : O[t2 - 1]? = some (topO O) := by
    unfold topO
    rw [ht2, ← List.getLast?_eq_getElem?, List.getLastD_eq_getLast?]
    cases h : O.getLast? with
    | none => rw [List.getLast?_eq_none_iff] at h; exact absurd h hO
    | some x => rfl
  simp [natCells, hl]
theorem topO_mem (hO : O ≠ []) : topO O ∈ O := by
  unfold topO
  rw [List.getLastD_eq_getLast?]
  cases h : O.getLast? with
  | none => rw [List.getLast?_eq_none_iff] at h; exact absurd h hO
  | some x => exact List.mem_of_getLast? h
theorem setN_length (P : List PartM) (j : Nat) (n : Int) : (setN P j n).length = P.length := by unfold setN; simp
theorem partCells_setN (n : Int) : ∀ (P : List PartM) (j : Nat), (partCells P).set (j * 4 + 3) (.int .i64 n) = partCells (setN P j n)
  | [], j => by simp [partCells, setN]
  | p :: P, 0 => by simp [partCells, setN, PartM.cells]
  | p :: P, j + 1 => by
    have ih := partCells_setN n P j
    have e1 : partCells (p :: P) = p.cells ++ partCells P := rfl
    have e2 : setN (p :: P) (j + 1) n = p :: setN P j n := rfl
    have e3 : partCells (p :: setN P j n) = p.cells ++ partCells (setN P j n) := rfl
    rw [e1, e2, e3, ← ih, List.set_append_right _ _ (by show 4 ≤ _; omega)]
    congr 2
    show (j + 1) * 4 + 3 - 4 = _
    omega
theorem partCells_get : ∀ (P : List PartM) (j : Nat) (_ : j < P.length), (partCells P)[j * 4 + 3]? = some (.int .i64 (nAt P j))
  | [], j, h => by simp at h
  | p :: P, 0, _ => rfl
  | p :: P, j + 1, h => by
    have e1 : partCells (p :: P) = p.cells ++ partCells P := rfl
    rw [e1, List.getElem?_append_right (by show 4 ≤ _; omega), show (j + 1) * 4 + 3 - p.cells.length = j * 4 + 3 by show (j + 1) * 4 + 3 - 4 = _; omega, partCells_get P j (by simpa using h)]
    rfl
theorem nAt_in {P : List PartM} {j : Nat} (h : ∀ p ∈ P, 0 ≤ p.n ∧ p.n ≤ 6) : 0 ≤ nAt P j ∧ nAt P j ≤ 6 := by
  unfold nAt
  cases hp : P[j]? with
  | none => exact ⟨Int.le_refl _, by decide⟩
  | some p => exact h p (List.mem_of_getElem? hp)
theorem setN_ns {P : List PartM} {n : Int} (hn : 0 ≤ n ∧ n ≤ 6) : ∀ (P : List PartM) (j : Nat), (∀ p ∈ P, 0 ≤ p.n ∧ p.n ≤ 6) → ∀ p ∈ setN P j n, 0 ≤ p.n ∧ p.n ≤ 6
  | [], j, h, p, hp => by simp [setN] at hp
  | x :: P, 0, h, p, hp => by
    have hp : p ∈ { x with n := n } :: P := hp
    rcases List.mem_cons.1 hp with rfl | hp
    · exact hn
    · exact h p (.tail _ hp)
  | x :: P, j + 1, h, p, hp => by
    have hp : p ∈ x :: setN P j n := hp
    rcases List.mem_cons.1 hp with rfl | hp
    · exact h _ (.head _)
    · exact setN_ns (P := P) hn P j (fun p hp => h p (.tail _ hp)) p hp
/-- A store into a row. -/
theorem st_row {md : Md} [hmd : md.Runs] {base : Nat} {e : TypeId} {size : Nat} {g n c i : Nat} {xs : List Value} {v : Value} {K : T} (hr : Row w base e size (some ⟨g, 0, none⟩) n c xs) (hi : i < xs.length) (hv : v.oneCell' = true)
    (h : ∀ w1, Ch (rowS (some ⟨g, 0, none⟩) n c) w w1 → Row w1 base e size (some ⟨g, 0, none⟩) n c (xs.set i v) → wpT Tryz.prog R Q K md w1) : wpT Tryz.prog R Q (.store ⟨g, i, none⟩ v K) md w := by
  have hl : xs.length = n * size := hr.1
  rcases hr.2 with ⟨h', _⟩ | ⟨g', cap, cur, h', hb, hg, h1, h2, h3, h4⟩
  · simp only [Value.slice.injEq] at h'
    cases h'.1
  · simp only [Value.slice.injEq, Option.some.injEq, Addr.mk.injEq, true_and, and_true] at h'
    obtain ⟨rfl, rfl⟩ := h'
    have hblk : Blk w g cur.toList e := by unfold Blk; rw [hg]
    have hlen : i < cur.toList.length := by
      have := congrArg List.length h4
      rw [List.length_take, hl] at this
      omega
    refine st_blk hblk hlen hv fun w1 c1 z1 b1 => h w1 (c1.mono fun k hk => by subst hk; rfl) ⟨by rw [List.length_set]; exact hl, .inr ⟨g, c, (cur.toList.set i v).toArray, rfl, hb, b1, h1, h2, ?_, ?_⟩⟩
    · simpa using h3
    · rw [List.take_set, h4]
/-- The parts' row: where it lies, and what a store of a part's number does. -/
theorem MSx.nth (D : MSx B w nd s i P O q t d q2 t2 d2) {j : Nat} (hj : j < P.length) : ∃ g, q = some ⟨g, 0, none⟩ ∧ rowS q t d g ∧ w.cell? ⟨g, j * 4 + 3, none⟩ = some (.int .i64 (nAt P j)) := by
  have htl := PRow.len D.row
  obtain ⟨g, hq, hg, hc⟩ := Row.get D.row (by omega)
  exact ⟨g, hq, hg, hc _ _ (partCells_get P j hj)⟩
theorem MSx.setn {md : Md} [hmd : md.Runs] {g j : Nat} {n : Int} {K : T} (D : MSx B w nd s i P O (some ⟨g, 0, none⟩) t d q2 t2 d2) (hj : j < P.length) (hn : 0 ≤ n ∧ n ≤ 6)
    (h : ∀ w1, Ch (rowS (some ⟨g, 0, none⟩) t d) w w1 → MSx B w1 nd s i (setN P j n) O (some ⟨g, 0, none⟩) t d q2 t2 d2 → wpT Tryz.prog R Q K md w1) : wpT Tryz.prog R Q (.store ⟨g, j * 4 + 3, none⟩ (.int .i64 n) K) md w := by
  refine st_row D.row (by rw [partCells_len]; omega) rfl fun w1 h1 r1 => h w1 h1 ⟨D.blk.ch h1 D.ne1, ?_, Row.ch D.opn h1 fun k hk hk' => Row.apart D.opn D.row (by decide) k hk hk', D.lo, { D.ok with p12 := by rw [setN_length]; exact D.ok.p12, ns := setN_ns (P := P) hn P j D.ok.ns }⟩
  show Row _ _ _ _ _ _ _ (partCells (setN P j n))
  rw [← partCells_setN]
  exact r1
theorem MSx.rowUp (D : MSx B w nd s i P O q t d q2 t2 d2) {w' : World} (h : Ch (rowS q t d) w w') : Ch (B ≤ ·) w w' := h.mono fun k hk => (Row.lt D.row hk).1
set_option maxHeartbeats 1000000 in
theorem minside_any (D : MSx B w nd s i P O q t d q2 t2 d2) (ht : ∀ j ∈ O, j < P.length) (hO : O ≠ []) :
    Calls Tryz.prog 138 #[.pointer (some ⟨nd, 0, none⟩)] w fun e w' => ∃ b, e = .returned (.bool b) ∧ Ch (B ≤ ·) w w' ∧ if pk (blanksM (rest s i)) = 93 then b = true ∧ MOk B w' nd s (blanksM (rest s i)).tail P O.dropLast else b = false ∧ MOk B w' nd s (blanksM (rest s i)) (setN P (topO O) 1) O := by
  refine calls_of_fnT mixed Tryz.func138 (s := s138) ?_
  rw [t138]
  have hbig := D.ok.big
  refine cut_i mixed s138_1 (fun (_ : Unit) w' => Ch (B ≤ ·) w w' ∧ ∃ j, MSx B w' nd s j P O q t d q2 t2 d2 ∧ rest s j = blanksM (rest s i)) (by kernel_rfl) (fun g => ?_) ?_
  · rw [t138_1]
    exact blr_i (fun x => x) i rfl D.ok.le D fun w' j h1 D1 hr => ⟨rfl, (), rfl, h1, j, D1, hr⟩
  rintro ⟨⟩ g w1 ⟨h1, j, D1, hr⟩
  rw [← hr]
  refine cut_i mixed s138_9 (fun v w' => Ch No w1 w' ∧ v.1 = decide (pk (rest s j) = 93)) (by kernel_rfl) (fun g => ?_) ?_
  · rw [t138_9]
    have Dd := D1.no (Ch.refl No _).drew
    refine dr_eq (lq_int (Dd.blk.cell 1) (lq_str (Dd.blk.cell 0) (br_both (fun e => ?_) fun e => un_eq ⟨rfl, (false, ()), rfl, (Ch.refl No _).drew, ?_⟩)))
    · have hj : j < s.size := by have := lt_t e; omega
      refine lq_str (Dd.blk.cell 0) (lq_int (Dd.blk.cell 1) (bi_i (by omega) (by rw [Int.toNat_natCast]; exact hj) (un_eq ⟨rfl, (_, ()), rfl, (Ch.refl No _).drew, ?_⟩)))
      rw [pk_at hj]
      show ((pk (rest s j) : Int) == 93) = _
      by_cases h : pk (rest s j) = 93
      · rw [h]; rfl
      · rw [decide_eq_false h]; exact beq_eq_false_iff_ne.2 (by omega)
    · have e := lt_f e
      refine (decide_eq_false fun h => ?_).symm
      have := pk_lt s j (by omega)
      omega
  rintro ⟨u, ⟨⟩⟩ g w2 ⟨h2, hu⟩
  dsimp only at hu
  subst hu
  have D2 := D1.no h2
  have H2 := h1.trans h2.no
  refine br_both (fun e => ?_) fun e => ?_
  · have e := of_decide_eq_true e
    have hj : j < s.size := pk_lt s j (by omega)
    refine ld_int (D2.blk.cell 1) ?_
    rw [show IntKind.i64.wrap ((j : Int) + 1) = ((j + 1 : Nat) : Int) from wrap_succ (by omega) (by omega)]
    refine D2.set hj fun w3 h3 D3 => ?_
    refine cut_i mixed s138_17 (fun (_ : Unit) w' => Ch (B ≤ ·) w3 w' ∧ MSx B w' nd s (j + 1) P O.dropLast q t d q2 (t2 - 1) d2) (by kernel_rfl) (fun g => ?_) ?_
    · rw [t138_17]
      exact pop_i D3 hO fun w' h4 D4 => ⟨rfl, (), rfl, h4, D4⟩
    rintro ⟨⟩ g w4 ⟨h4, D4⟩
    refine ⟨true, rfl, H2.trans ((D2.up h3).trans h4), ?_⟩
    rw [if_pos e]
    exact ⟨rfl, j + 1, _, _, _, _, _, _, D4, (rest_tail s j).symm, fun k hk => ht k (List.dropLast_subset O hk)⟩
  · have e := of_decide_eq_false e
    have htop := ht _ (topO_mem hO)
    have ht3 := D.ok.o3
    have ht2 := D.t2_is
    refine cut_i mixed s138_23 (fun (_ : Unit) w' => Ch (B ≤ ·) w2 w' ∧ MSx B w' nd s j (setN P (topO O) 1) O q t d q2 t2 d2) (by kernel_rfl) (fun g => ?_) ?_
    · rw [t138_23]
      simp only [addr_add, Nat.zero_add]
      have Dd := D2.no (Ch.refl No _).drew
      have cd : Ch (B ≤ ·) w2 w2.drew := (Ch.refl _ _).drew
      obtain ⟨g2, hq2, hg2, hc2, h02⟩ := Dd.top hO
      obtain ⟨g1, hq1, hg1, hc1⟩ := Dd.nth htop
      subst hq2 hq1
      have hw1 : IntKind.i64.wrap ((t2 : Int) - 1) = ((t2 - 1 : Nat) : Int) := by rw [wrap_in (by omega) (by omega)]; omega
      refine hd_i (fun w' => w'.cell? ⟨nd, 2, none⟩ = some (.slice (some ⟨g1, 0, none⟩) t d) ∧ w'.cell? ⟨nd, 3, none⟩ = some (.slice (some ⟨g2, 0, none⟩) t2 d2) ∧ w'.cell? ⟨g2, t2 - 1, none⟩ = some (.int .i64 ((topO O : Nat) : Int))) ⟨Dd.blk.cell 2, Dd.blk.cell 3, hc2⟩ (lh_sl (fun _ h => h.1) (lh_sl (fun _ h => h.2.1) (lh_sl (fun _ h => h.2.1) ?_)))
      dsimp only
      rw [hw1]
      have htl := PRow.len D.row
      refine ix_i (by omega) (by omega) ?_
      simp only [Int.toNat_natCast, addr_add, Nat.zero_add, Nat.mul_one]
      refine lh_int (fun _ h => h.2.2) (ix_i (by omega) (by omega) ?_)
      simp only [Int.toNat_natCast, addr_add, Nat.zero_add]
      refine eff_i (Dd.setn htop (by decide) fun w3 h3 D3 => bk ⟨D3.blk.cell 2, D3.blk.cell 3, h3.cellv hc2 fun hk => Row.apart Dd.opn Dd.row (by decide) g2 hg2 hk⟩ (un_h ⟨rfl, (), rfl, cd.trans (Dd.rowUp h3), D3⟩))
    rintro ⟨⟩ g w3 ⟨h3, D3⟩
    refine ⟨false, rfl, H2.trans h3, ?_⟩
    rw [if_neg e]
    exact ⟨rfl, j, _, _, _, _, _, _, D3, rfl, fun k hk => by rw [setN_length]; exact ht k hk⟩
/-- What behind answers. -/
def BehR (B : Nat) (w' : World) (nd : Nat) (s : ByteArray) (b : Bool) : Except Flt (Bool × List UInt8 × List PartM × List Nat) → Prop
  | .error f => b = true ∧ MBad w' nd s f
  | .ok (more, l, P, O) => b = more ∧ MOk B w' nd s l P O
set_option maxHeartbeats 2000000 in
theorem mbehind_any (D : MSx B w nd s i P O q t d q2 t2 d2) (ht : ∀ j ∈ O, j < P.length) :
    Calls Tryz.prog 139 #[.pointer (some ⟨nd, 0, none⟩)] w fun e w' => ∃ b, e = .returned (.bool b) ∧ Ch (B ≤ ·) w w' ∧ BehR B w' nd s b (behM (O.length + 1) (rest s i) P O) := by
  refine calls_of_fnT mixed Tryz.func139 (s := s139) ?_
  rw [t139]
  have hbig := D.ok.big
  have htl := PRow.len D.row
  refine loop_i mixed m139_1 s139_1 (by kernel_rfl) (by kernel_rfl)
    (fun (_ : Unit) w' => Ch (B ≤ ·) w w' ∧ ∃ (i' : Nat) (O' : List Nat) (t2' : Nat), MSx B w' nd s i' P O' q t d q2 t2' d2 ∧ (∀ j ∈ O', j < P.length) ∧ behM (O.length + 1) (rest s i) P O = behM (O'.length + 1) (rest s i') P O')
    (fun (_ : Unit) w' => match w'.cell? ⟨nd, 3, none⟩ with
      | some (.slice _ n _) => n
      | _ => 0) () rfl ⟨Ch.refl _ _, i, O, t2, D, ht, rfl⟩ ?_
  intro v g w1 hv
  rw [t139_1]
  obtain ⟨⟩ := v
  obtain ⟨h1, i1, O1, t21, D1, ht1, hB⟩ := hv
  rw [hB]
  clear hB
  have ht2 := D1.t2_is
  have ho3 := D1.ok.o3
  refine ld_sl (D1.blk.cell 3) ?_
  dsimp only
  refine br_both (fun e => ?_) fun e => ?_
  · have hO : O1 ≠ [] := by
      rintro rfl
      have := gt_t e
      simp at ht2
      omega
    clear e
    have htop := ht1 _ (topO_mem hO)
    refine cut_i mixed s139_3 (fun (_ : Unit) w' => Ch (B ≤ ·) w1 w' ∧ ∃ j, MSx B w' nd s j P O1 q t d q2 t21 d2 ∧ rest s j = blanksM (rest s i1)) (by kernel_rfl) (fun g => ?_) ?_
    · rw [t139_3]
      exact blr_i (fun x => x) i1 rfl D1.ok.le D1 fun w' j h1 D1 hr => ⟨rfl, (), rfl, h1, j, D1, hr⟩
    intro v g w2 hv
    obtain ⟨⟩ := v
    obtain ⟨h2, j, D2, hr⟩ := hv
    have hbe : behM (O1.length + 1) (rest s i1) P O1 = if pk (rest s j) = 44 then (if nAt P (topO O1) = 6 then .error (22, (rest s j).length) else .ok (true, blanksM (rest s j).tail, setN P (topO O1) (nAt P (topO O1) + 1), O1))
        else if pk (rest s j) = 93 then behM O1.length (rest s j).tail P O1.dropLast
        else .error (28, (rest s j).length) := by
      rw [behM, if_neg hO, hr]
    refine cut_i mixed s139_11 (fun v w' => Ch No w2 w' ∧ v.1 = decide (pk (rest s j) ≠ 93 ∧ pk (rest s j) ≠ 44)) (by kernel_rfl) (fun g => ?_) ?_
    · rw [t139_11]
      have Dd := D2.no (Ch.refl No _).drew
      refine dr_eq (lq_int (Dd.blk.cell 1) (lq_str (Dd.blk.cell 0) (br_both (fun e => un_eq ⟨rfl, (true, ()), rfl, (Ch.refl No _).drew, ?_⟩) fun e => ?_)))
      · have e := ge_t e
        rw [show rest s j = [] from List.drop_of_length_le (by have := sizeB s; omega)]
        rfl
      · have hj : j < s.size := by have := ge_f e; omega
        refine lq_str (Dd.blk.cell 0) (lq_int (Dd.blk.cell 1) (bi_i (by omega) (by rw [Int.toNat_natCast]; exact hj) ?_))
        rw [pk_at hj]
        refine br_both (fun e => ?_) fun e => un_eq ⟨rfl, (false, ()), rfl, (Ch.refl No _).drew, ?_⟩
        · have e := ne_t e
          refine lq_str (Dd.blk.cell 0) (lq_int (Dd.blk.cell 1) (bi_i (by omega) (by rw [Int.toNat_natCast]; exact hj) (un_eq ⟨rfl, (_, ()), rfl, (Ch.refl No _).drew, ?_⟩)))
          rw [pk_at hj]
          show ((pk (rest s j) : Int) != 44) = _
          by_cases h : pk (rest s j) = 44
          · rw [decide_eq_false (fun h' => h'.2 h), h]; rfl
          · rw [decide_eq_true ⟨by omega, h⟩]; exact bne_iff_ne.2 (by omega)
        · have e := ne_f e
          exact (decide_eq_false (by omega)).symm
    intro v g w3 hv
    obtain ⟨u, ⟨⟩⟩ := v
    obtain ⟨h3, hu⟩ := hv
    dsimp only at hu
    subst hu
    have D3 := D2.no h3
    have H3 := h1.trans (h2.trans h3.no)
    refine br_both (fun e => ?_) fun e => ?_
    · obtain ⟨k1, k2⟩ := of_decide_eq_true e
      refine ld_int (D3.blk.cell 1) (fl_i 28 j D3 (by decide) D3.ok.le fun w' h4 h5 => ⟨(true, ()), rfl, fun g => ⟨true, rfl, H3.trans h4, ?_⟩⟩)
      rw [hbe, if_neg k2, if_neg k1]
      exact ⟨rfl, h5⟩
    have hor : pk (rest s j) = 93 ∨ pk (rest s j) = 44 := by
      have := of_decide_eq_false e
      omega
    clear e
    have hj : j < s.size := pk_lt s j (by omega)
    have hwj : IntKind.i64.wrap ((j : Int) + 1) = ((j + 1 : Nat) : Int) := wrap_succ (by omega) (by omega)
    refine cut_i mixed s139_23 (fun v w' => Ch No w3 w' ∧ v.1 = ((topO O1 : Nat) : Int)) (by kernel_rfl) (fun g => ?_) ?_
    · rw [t139_23]
      have Dd := D3.no (Ch.refl No _).drew
      obtain ⟨g2, hq2, hg2, hc2, h02⟩ := Dd.top hO
      subst hq2
      refine dr_eq (lq_sl (Dd.blk.cell 3) (lq_sl (Dd.blk.cell 3) ?_))
      dsimp only
      rw [show IntKind.i64.wrap ((t21 : Int) - 1) = ((t21 - 1 : Nat) : Int) by rw [wrap_in (by omega) (by omega)]; omega]
      refine ix_i (by omega) (by omega) ?_
      simp only [Int.toNat_natCast, addr_add, Nat.zero_add, Nat.mul_one]
      exact lq_int hc2 (un_eq ⟨rfl, (_, ()), rfl, (Ch.refl No _).drew, rfl⟩)
    intro v g w4 hv
    obtain ⟨u, ⟨⟩⟩ := v
    obtain ⟨h4, hu⟩ := hv
    dsimp only at hu
    subst hu
    have D4 := D3.no h4
    refine cut_i mixed s139_29 (fun v w' => Ch No w4 w' ∧ v.1 = decide (pk (rest s j) = 44)) (by kernel_rfl) (fun g => ?_) ?_
    · rw [t139_29]
      have Dd := D4.no (Ch.refl No _).drew
      refine dr_eq (lq_str (Dd.blk.cell 0) (lq_int (Dd.blk.cell 1) (bi_i (by omega) (by rw [Int.toNat_natCast]; exact hj) (un_eq ⟨rfl, (_, ()), rfl, (Ch.refl No _).drew, ?_⟩))))
      rw [pk_at hj]
      show ((pk (rest s j) : Int) == 44) = _
      by_cases h : pk (rest s j) = 44
      · rw [h]; rfl
      · rw [decide_eq_false h]; exact beq_eq_false_iff_ne.2 (by omega)
    intro v g w5 hv
    obtain ⟨u, ⟨⟩⟩ := v
    obtain ⟨h5, hu⟩ := hv
    dsimp only at hu
    subst hu
    have D5 := D4.no h5
    have H5 := H3.trans (h4.trans h5).no
    refine br_both (fun e => ?_) fun e => ?_
    · have e := of_decide_eq_true e
      rw [if_pos e] at hbe
      obtain ⟨g1, hq1, hg1, hc1⟩ := D5.nth htop
      subst hq1
      have hns := nAt_in (P := P) (j := topO O1) D5.ok.ns
      refine ld_sl (D5.blk.cell 2) (ix_i (by omega) (by dsimp only; omega) ?_)
      simp only [Int.toNat_natCast, addr_add, Nat.zero_add]
      refine ld_int hc1 (br_both (fun e => ?_) fun e => ?_)
      · rw [if_pos (eq_t e)] at hbe
        refine ld_int (D5.blk.cell 1) (fl_i 22 j D5 (by decide) D5.ok.le fun w' h6 h7 => ⟨(true, ()), rfl, fun g => ⟨true, rfl, H5.trans h6, ?_⟩⟩)
        rw [hbe]
        exact ⟨rfl, h7⟩
      have hn6 := eq_f e
      rw [if_neg hn6] at hbe
      refine ld_sl (D5.blk.cell 2) (ix_i (by omega) (by dsimp only; omega) ?_)
      simp only [Int.toNat_natCast, addr_add, Nat.zero_add]
      refine ld_int hc1 (ix_i (by omega) (by omega) ?_)
      simp only [Int.toNat_natCast, addr_add, Nat.zero_add]
      rw [show IntKind.i64.wrap (nAt P (topO O1) + 1) = nAt P (topO O1) + 1 from wrap_in (by omega) (by omega)]
      refine D5.setn htop (by omega) fun w6 h6 D6 => ?_
      refine cut_i mixed s139_43 (fun (_ : Unit) w' => Ch (B ≤ ·) w6 w' ∧ ∃ k, MSx B w' nd s k (setN P (topO O1) (nAt P (topO O1) + 1)) O1 (some ⟨g1, 0, none⟩) t d q2 t21 d2 ∧ rest s k = blanksM (rest s (j + 1))) (by kernel_rfl) (fun g => ?_) ?_
      · rw [t139_43]
        exact blr_i (fun x => IntKind.i64.wrap (x + 1)) (j + 1) hwj hj D6 fun w' j h1 D1 hr => ⟨rfl, (), rfl, h1, j, D1, hr⟩
      intro v g w7 hv
      obtain ⟨⟩ := v
      obtain ⟨h7, k, D7, hr7⟩ := hv
      refine ⟨(true, ()), rfl, fun g => ⟨true, rfl, H5.trans ((D5.rowUp h6).trans h7), ?_⟩⟩
      rw [hbe]
      exact ⟨rfl, k, _, _, _, _, _, _, D7, by rw [hr7, rest_tail], fun m hm => by rw [setN_length]; exact ht1 m hm⟩
    · have e : pk (rest s j) = 93 := by have := of_decide_eq_false e; omega
      rw [if_neg (by omega), if_pos e] at hbe
      refine ld_int (D5.blk.cell 1) ?_
      rw [hwj]
      refine D5.set hj fun w6 h6 D6 => ?_
      refine pop_i D6 hO fun w7 h7 D7 => ⟨(), rfl, ⟨H5.trans ((D5.up h6).trans h7), j + 1, O1.dropLast, t21 - 1, D7, fun m hm => ht1 m (List.dropLast_subset O1 hm), ?_⟩, ?_⟩
      · rw [hbe, rest_tail]
        congr 1
        rw [List.length_dropLast]
        have := List.length_pos_iff.2 hO
        omega
      · rw [show w7.cell? ⟨nd, 3, none⟩ = _ from D7.blk.cell 3, show w1.cell? ⟨nd, 3, none⟩ = _ from D1.blk.cell 3]
        show t21 - 1 < t21
        have := List.length_pos_iff.2 hO
        omega
  · have hO : O1 = [] := by
      have := gt_f e
      exact List.eq_nil_of_length_eq_zero (by omega)
    subst hO
    refine ⟨rfl, (), rfl, fun g => ⟨false, rfl, h1, ?_⟩⟩
    rw [show behM (([] : List Nat).length + 1) (rest s i1) P [] = .ok (false, rest s i1, P, []) by rw [behM, if_pos rfl]]
    exact ⟨rfl, i1, _, _, _, _, _, _, D1, rfl, ht1⟩
end
end Go.Proofs.YtjlmkahagcojcaaGreatDoor.V
