/- The document's reader: its state; fault, add, blanks, digit, escape, word. -/
import Derived.Test.YtjlmkahagcojcaaGreatDoorXe
namespace Go.Proofs.YtjlmkahagcojcaaGreatDoor.V
open Go Tr
open Go.Lib (decodeL)
set_option maxRecDepth 100000
/-! the tree of function 114 -/
abbrev fx114_1 (qs0 : ByteArray) : List (Tmp × Value) := [(0, .string qs0), (4, .int .i64 0)]
abbrev m114_1 : List (Tmp × Comp) := [(1, .leaf (.int .i64))]
abbrev mx114_1 : List (Tmp × Comp) := [(1, .leaf (.int .i64))]
abbrev mr114_1 : List (Tmp × Comp) := []
def s114_1 : Script := .sym (.lit (.lit (.ix (.lit (.lit (.sym (.lit (.lit (.lit (.lit (.lit (.lit (.lit .nil))))))) (.lit (.lit (.ix (.lit (.lit (.lit (.lit (.sym .nil .nil)))))))))))))) (.lit (.lit (.lit (.lit (.lit (.lit (.lit .nil)))))))
theorem t114_1 (qs0 : ByteArray) (x_1 : Int) (gg1 : Nat → Value) : pieceT Tryz.prog (at_ Tryz.f114 [1, 0, 0, 0]) 24 (fx114_1 qs0 ++ mvals m114_1 (x_1, ())) gg1 (m114_1.map (·.1)) (mx114_1.map (·.1)) (mr114_1.map (·.1)) s114_1 = .br (Decidable.decide (x_1 < (↑qs0.size : Int))) (.bidx qs0 x_1 (fun c2 => .br (c2 == 32) (.fin .normal [(1, .int .i64 (IntKind.i64.wrap (x_1 + 1)))]) (.bidx qs0 x_1 (fun c3 => .br (c3 == 9) (.fin .normal [(1, .int .i64 (IntKind.i64.wrap (x_1 + 1)))]) (.fin (.exit 0) [(1, .int .i64 x_1)]))))) (.fin (.exit 0) [(1, .int .i64 x_1)]) := by kernel_rfl
def s114 : Script := .lp 0 [0, 4] [1] mx114_1 mr114_1 .nil .nil
theorem t114 (qs0 : ByteArray) (qx1 : Int) : fnT Tryz.prog Tryz.f114 #[.string qs0, .int .i64 qx1] s114 = .loop (at_ Tryz.f114 [1, 0, 0, 0]) 24 (fx114_1 qs0) [(1, .int .i64 qx1)] mx114_1 mr114_1 0 (fun u4 g4 => .done (.returned (.int .i64 u4.1))) (fun u5 g5 => .stuck) := by kernel_rfl
/-! the tree of function 188 -/
abbrev fx188_2 (c1 : Int) : List (Tmp × Value) := [(5, .int .u8 c1)]
abbrev mx188_2 : List (Tmp × Comp) := [(13, .leaf .bool)]
def s188_2 : Script := .sym (.lit (.lit .nil)) (.lit (.lit .nil))
theorem t188_2 (c1 : Int) (gg2 : Nat → Value) : pieceT Tryz.prog (at_ Tryz.f188 [1, 1, 1, 0, 0, 0]) 45 (fx188_2 c1) gg2 (mx188_2.map (·.1)) [] [] s188_2 = .br (Decidable.decide (c1 ≥ 48)) (.fin .normal [(13, .bool (Decidable.decide (c1 ≤ 57)))]) (.fin .normal [(13, .bool false)]) := by kernel_rfl
abbrev fx188_4 (c1 : Int) : List (Tmp × Value) := [(5, .int .u8 c1)]
abbrev mx188_4 : List (Tmp × Comp) := [(23, .leaf .bool)]
def s188_4 : Script := .sym (.lit (.lit .nil)) (.lit (.lit .nil))
theorem t188_4 (c1 : Int) (gg4 : Nat → Value) : pieceT Tryz.prog (at_ Tryz.f188 [1, 1, 1, 0, 0, 1, 1, 0]) 45 (fx188_4 c1) gg4 (mx188_4.map (·.1)) [] [] s188_4 = .br (Decidable.decide (c1 ≥ 97)) (.fin .normal [(23, .bool (Decidable.decide (c1 ≤ 102)))]) (.fin .normal [(23, .bool false)]) := by kernel_rfl
def s188 : Script := .sym .nil (.ix (.ct 1 [5] mx188_2 (.sym .nil (.ct 0 [5] mx188_4 (.sym .nil (.sym (.lit (.lit (.sym .nil .nil))) (.lit (.lit (.lit .nil)))))))))
theorem t188 (qs0 : ByteArray) (qx1 : Int) : fnT Tryz.prog Tryz.f188 #[.string qs0, .int .i64 qx1] s188 = .br (Decidable.decide (qx1 ≥ (↑qs0.size : Int))) (.done (.returned (.int .i64 (-1)))) (.bidx qs0 qx1 (fun c1 => .cut (at_ Tryz.f188 [1, 1, 1, 0, 0, 0]) 45 (fx188_2 c1) mx188_2 (fun u3 g3 => .br u3.1 (.done (.returned (.int .i64 (IntKind.i64.wrap (IntKind.u8.wrap (c1 - 48)))))) (.cut (at_ Tryz.f188 [1, 1, 1, 0, 0, 1, 1, 0]) 45 (fx188_4 c1) mx188_4 (fun u5 g5 => .br u5.1 (.done (.returned (.int .i64 (IntKind.i64.wrap (IntKind.i64.wrap (IntKind.u8.wrap (c1 - 97)) + 10))))) (.br (Decidable.decide (c1 ≥ 65)) (.br (Decidable.decide (c1 ≤ 70)) (.done (.returned (.int .i64 (IntKind.i64.wrap (IntKind.i64.wrap (IntKind.u8.wrap (c1 - 65)) + 10))))) (.done (.returned (.int .i64 (-1))))) (.done (.returned (.int .i64 (-1)))))))))) := by kernel_rfl
/-! the tree of function 179 -/
abbrev fx179_2 (qs0 : ByteArray) (qx1 : Int) (c1 : Int) : List (Tmp × Value) := [(0, .string qs0), (1, .int .i64 qx1), (19, .int .u8 c1)]
abbrev mx179_2 : List (Tmp × Comp) := [(20, .leaf .bool)]
def s179_2 : Script := .sym .nil .nil
theorem t179_2 (qs0 : ByteArray) (qx1 : Int) (c1 : Int) (gg2 : Nat → Value) : pieceT Tryz.prog (at_ Tryz.f179 [1, 1, 0, 1, 0, 0]) 56 (fx179_2 qs0 qx1 c1) gg2 (mx179_2.map (·.1)) [] [] s179_2 = .br (c1 == 34) (.fin .normal [(20, .bool true)]) (.fin .normal [(20, .bool (c1 == 92))]) := by kernel_rfl
def s179 : Script := .sym .nil (.ix (.ct 0 [0, 1, 19] mx179_2 (.sym (.ix .nil) (.sym .nil (.sym .nil (.sym (.cl (.one (.leaf (.int .i64))) (.sym .nil (.cl (.one (.leaf (.int .i64))) (.sym .nil .nil)))) .nil))))))
theorem t179 (qs0 : ByteArray) (qx1 : Int) : fnT Tryz.prog Tryz.f179 #[.string qs0, .int .i64 qx1] s179 = .br (Decidable.decide (IntKind.i64.wrap (qx1 + 1) ≥ (↑qs0.size : Int))) (.done (.returned (.tuple #[.int .u8 0, .int .i64 0, .int .i64 (IntKind.i64.wrap (qx1 + 1))]))) (.bidx qs0 (IntKind.i64.wrap (qx1 + 1)) (fun c1 => .cut (at_ Tryz.f179 [1, 1, 0, 1, 0, 0]) 56 (fx179_2 qs0 qx1 c1) mx179_2 (fun u3 g3 => .br u3.1 (.bidx qs0 (IntKind.i64.wrap (qx1 + 1)) (fun c4 => .done (.returned (.tuple #[.int .u8 c4, .int .i64 2, .int .i64 0])))) (.br (c1 == 110) (.done (.returned (.tuple #[.int .u8 10, .int .i64 2, .int .i64 0]))) (.br (c1 == 116) (.done (.returned (.tuple #[.int .u8 9, .int .i64 2, .int .i64 0]))) (.br (c1 == 120) (.call 188 #[.string qs0, .int .i64 (IntKind.i64.wrap (qx1 + 2))] (.one (.leaf (.int .i64))) (fun x5 => .br (Decidable.decide (x5 < 0)) (.done (.returned (.tuple #[.int .u8 0, .int .i64 0, .int .i64 (IntKind.i64.wrap (qx1 + 2))]))) (.call 188 #[.string qs0, .int .i64 (IntKind.i64.wrap (qx1 + 3))] (.one (.leaf (.int .i64))) (fun x6 => .br (Decidable.decide (x6 < 0)) (.done (.returned (.tuple #[.int .u8 0, .int .i64 0, .int .i64 (IntKind.i64.wrap (qx1 + 3))]))) (.done (.returned (.tuple #[.int .u8 (IntKind.u8.wrap (IntKind.i64.wrap (IntKind.i64.wrap (x5 * 16) + x6))), .int .i64 4, .int .i64 0]))))))) (.done (.returned (.tuple #[.int .u8 0, .int .i64 0, .int .i64 (IntKind.i64.wrap (qx1 + 1))]))))))))) := by kernel_rfl
/-! the tree of function 161 -/
def s161 : Script := .nil
theorem t161 (qa0 : Addr) (qx1 : Int) (qx2 : Int) : fnT Tryz.prog Tryz.f161 #[.pointer (some qa0), .int .i64 qx1, .int .i64 qx2] s161 = .store (qa0.add 4) (.int .i64 qx1) (.store (qa0.add 1) (.int .i64 qx2) (.done (.returned (.tuple #[])))) := by kernel_rfl
/-! the tree of function 162 -/
abbrev fx162_2 (qa0 : Addr) (qx2 : Int) (n1 : Nat) : List (Tmp × Value) := [(0, .pointer (some qa0)), (2, .int .i64 qx2), (4, .pointer (some ⟨n1, 0, none⟩))]
abbrev mx162_2 : List (Tmp × Comp) := []
def s162_2 : Script := .hd0 (.hq 0 (.hq 1 (.hq 2 (.hq 3 (.hq 5 (.ld (.int .i64) (.ld (.int .i64) (.ld .str (.ld (.int .i64) (.hl 4 (.ld .sl (.he 6 (.he 7 (.rn (.one (.leaf .sl)) (.hq 8 (.hq 9 (.he 10 .nil))))))) (.hl 6 (.he 4 (.ld .sl (.he 7 (.rn (.one (.leaf .sl)) (.hq 8 (.hq 9 (.he 10 .nil))))))) .nil)))))))))))
theorem t162_2 (qa0 : Addr) (qx2 : Int) (n1 : Nat) (gg2 : Nat → Value) : pieceT Tryz.prog (at_ Tryz.f162 [1, 0]) 20 (fx162_2 qa0 qx2 n1) gg2 (mx162_2.map (·.1)) [] [] s162_2 = .hdrawn (.load ⟨n1, 0, none⟩ (.int .i64) (fun x3 => .load ⟨n1, 1, none⟩ (.int .i64) (fun x4 => .load ⟨n1, 2, none⟩ .str (fun s5 => .load ⟨n1, 3, none⟩ (.int .i64) (fun x6 => .both (.eff (.load (qa0.add 2) .sl (fun l7 => .back (.eff (.new (.cells #[.int .i64 x3, .int .i64 x4, .string s5, .int .i64 x6] 208 (0, 0)) (fun n8 => .back (.eff (.run (builtin .append #[173, 173] 173 #[false, false] #[.slice l7.1 l7.2.1 l7.2.2, .slice (some ⟨n8, 0, none⟩) 1 1]) (.one (.leaf .sl)) (fun l9 => .back (.eff (.store (qa0.add 2) (.slice l9.1 l9.2.1 l9.2.2) (.back (.undrawn (.fin .normal [])))))))))))))) (.both (.eff (.new (.cells #[.int .i64 x3, .int .i64 x4, .string s5, .int .i64 x6] 208 (0, 0)) (fun n10 => .back (.eff (.load (qa0.add 2) .sl (fun l11 => .back (.eff (.run (builtin .append #[173, 173] 173 #[false, false] #[.slice l11.1 l11.2.1 l11.2.2, .slice (some ⟨n10, 0, none⟩) 1 1]) (.one (.leaf .sl)) (fun l12 => .back (.eff (.store (qa0.add 2) (.slice l12.1 l12.2.1 l12.2.2) (.back (.undrawn (.fin .normal [])))))))))))))) (.triv))))))) := by kernel_rfl
def s162 : Script := .ct 1 [0, 2, 4] mx162_2 .nil
theorem t162 (qa0 : Addr) (qx1_0 : Int) (qx1_1 : Int) (qs1_2 : ByteArray) (qx1_3 : Int) (qx2 : Int) : fnT Tryz.prog Tryz.f162 #[.pointer (some qa0), .agg #[.int .i64 qx1_0, .int .i64 qx1_1, .string qs1_2, .int .i64 qx1_3], .int .i64 qx2] s162 = .new (.cells #[.int .i64 qx1_0, .int .i64 qx1_1, .string qs1_2, .int .i64 qx1_3] 208 (0, 0)) (fun n1 => .cut (at_ Tryz.f162 [1, 0]) 20 (fx162_2 qa0 qx2 n1) mx162_2 (fun u13 g13 => .store (qa0.add 1) (.int .i64 qx2) (.done (.returned (.tuple #[]))))) := by kernel_rfl
/-! the tree of function 163 -/
abbrev fx163_1 (qa0 : Addr) : List (Tmp × Value) := [(0, .pointer (some qa0))]
abbrev m163_1 : List (Tmp × Comp) := [(2, .leaf (.int .i64))]
abbrev mx163_1 : List (Tmp × Comp) := []
abbrev mr163_1 : List (Tmp × Comp) := []
abbrev fx163_2 (qa0 : Addr) (x_2 : Int) : List (Tmp × Value) := [(0, .pointer (some qa0)), (2, .int .i64 x_2)]
abbrev mx163_2 : List (Tmp × Comp) := [(34, .leaf .bool)]
def s163_2 : Script := .qt (.ld (.int .i64) (.ld .str (.sym (.lit (.lit (.lit (.lit (.lit (.lit (.lit (.lit (.lit (.lit (.lit (.lit (.lit (.lit .nil)))))))))))))) (.lit (.lit (.lit (.ld .str (.lit (.lit (.lit (.lit (.ld (.int .i64) (.lit (.lit (.lit (.ix (.lit (.lit (.ix (.lit (.lit .nil)))))))))))))))))))))
theorem t163_2 (qa0 : Addr) (x_2 : Int) (gg2 : Nat → Value) : pieceT Tryz.prog (at_ Tryz.f163 [0, 1, 0, 0, 1, 0, 0, 0]) 51 (fx163_2 qa0 x_2) gg2 (mx163_2.map (·.1)) [] [] s163_2 = .drawn (.load (qa0.add 1) (.int .i64) (fun x3 => .load qa0 .str (fun s4 => .br (Decidable.decide (IntKind.i64.wrap (x3 + x_2) ≥ (↑s4.size : Int))) (.undrawn (.fin .normal [(34, .bool true)])) (.load qa0 .str (fun s5 => .load (qa0.add 1) (.int .i64) (fun x6 => .bidx s5 (IntKind.i64.wrap (x6 + x_2)) (fun c7 => .bidx (bytesL [110, 111, 110, 101]) x_2 (fun c8 => .undrawn (.fin .normal [(34, .bool (c7 != c8))]))))))))) := by kernel_rfl
def s163_1 : Script := .sym (.ct 1 [0, 2] mx163_2 (.sym (.ld (.int .i64) (.cl (.tup []) .nil)) .nil)) .nil
theorem t163_1 (qa0 : Addr) (x_2 : Int) (gg1 : Nat → Value) : pieceT Tryz.prog (at_ Tryz.f163 [0, 1, 0, 0]) 51 (fx163_1 qa0 ++ mvals m163_1 (x_2, ())) gg1 (m163_1.map (·.1)) (mx163_1.map (·.1)) (mr163_1.map (·.1)) s163_1 = .br (Decidable.decide (x_2 < 4)) (.cut (at_ Tryz.f163 [0, 1, 0, 0, 1, 0, 0, 0]) 51 (fx163_2 qa0 x_2) mx163_2 (fun u9 g9 => .br u9.1 (.load (qa0.add 1) (.int .i64) (fun x10 => .call 161 #[.pointer (some qa0), .int .i64 28, .int .i64 (IntKind.i64.wrap (x10 + x_2))] (.tup []) (fun r11 => .fin .ret []))) (.fin .normal [(2, .int .i64 (IntKind.i64.wrap (x_2 + 1)))]))) (.fin (.exit 0) []) := by kernel_rfl
def s163 : Script := .lp 0 [0] [2] mx163_1 mr163_1 (.ld (.int .i64) (.cl (.tup []) .nil)) .nil
theorem t163 (qa0 : Addr) : fnT Tryz.prog Tryz.f163 #[.pointer (some qa0)] s163 = .loop (at_ Tryz.f163 [0, 1, 0, 0]) 51 (fx163_1 qa0) [(2, .int .i64 0)] mx163_1 mr163_1 0 (fun u12 g12 => .load (qa0.add 1) (.int .i64) (fun x13 => .call 162 #[.pointer (some qa0), .agg #[.int .i64 0, .int .i64 0, .string (bytesL []), .int .i64 0], .int .i64 (IntKind.i64.wrap (x13 + 4))] (.tup []) (fun r14 => .done (.returned (.tuple #[]))))) (fun u15 g15 => .done (.returned (.tuple #[]))) := by kernel_rfl
abbrev tMR : TypeId := 225
abbrev natCells (O : List Nat) : List Value := O.map fun (j : Nat) => Value.int .i64 (j : Int)
/-- What is lawful of a reader's parts. -/
structure Fine (s : ByteArray) (i : Nat) (P : List PartM) (O : List Nat) : Prop where
  le : i ≤ s.size
  big : s.size ≤ 140737488355328
  p12 : P.length ≤ 12
  o3 : O.length ≤ 3
  ns : ∀ p ∈ P, 0 ≤ p.n ∧ p.n ≤ 6
/-- The reader in memory. -/
structure MSx (B : Nat) (w : World) (nd : Nat) (s : ByteArray) (i : Nat) (P : List PartM) (O : List Nat) (q : Option Addr) (t d : Nat) (q2 : Option Addr) (t2 d2 : Nat) : Prop where
  blk : Blk w nd [.string s, .int .i64 i, .slice q t d, .slice q2 t2 d2, .int .i64 0] tMR
  row : PRow w B q t d P
  opn : Row w B tInt 1 q2 t2 d2 (natCells O)
  lo : B ≤ nd
  ok : Fine s i P O
/-- It has met a fault. -/
def MBad (w : World) (nd : Nat) (s : ByteArray) (f : Flt) : Prop := f.1 ≠ 0 ∧ f.2 ≤ s.size ∧ ∃ q t d q2 t2 d2, Blk w nd [.string s, .int .i64 ((s.size - f.2 : Nat) : Int), .slice q t d, .slice q2 t2 d2, .int .i64 f.1] tMR
/-- It stands ahead of l. -/
def MOk (B : Nat) (w : World) (nd : Nat) (s : ByteArray) (l : List UInt8) (P : List PartM) (O : List Nat) : Prop := ∃ i q t d q2 t2 d2, MSx B w nd s i P O q t d q2 t2 d2 ∧ rest s i = l ∧ ∀ j ∈ O, j < P.length
def MRes (B : Nat) (w : World) (nd : Nat) (s : ByteArray) : Except Flt (List UInt8 × List PartM × List Nat) → Prop
  | .error f => MBad w nd s f
  | .ok (l, P, O) => MOk B w nd s l P O
section
variable {B : Nat} {w w' : World} {nd : Nat} {s : ByteArray} {i : Nat} {P : List PartM} {O : List Nat} {q : Option Addr} {t d : Nat} {q2 : Option Addr} {t2 d2 : Nat}
theorem MSx.no (D : MSx B w nd s i P O q t d q2 t2 d2) (h : Ch No w w') : MSx B w' nd s i P O q t d q2 t2 d2 := ⟨D.blk.ch h (fun h => h), Row.no D.row h, Row.no D.opn h, D.lo, D.ok⟩
theorem MSx.ne1 (D : MSx B w nd s i P O q t d q2 t2 d2) : ¬ rowS q t d nd := Row.ne D.row D.blk (by decide)
theorem MSx.ne2 (D : MSx B w nd s i P O q t d q2 t2 d2) : ¬ rowS q2 t2 d2 nd := Row.ne D.opn D.blk (by decide)
theorem MSx.rows (D : MSx B w nd s i P O q t d q2 t2 d2) (h : Ch (· = nd) w w') : PRow w' B q t d P ∧ Row w' B tInt 1 q2 t2 d2 (natCells O) :=
  ⟨Row.ch D.row h fun k hk e => D.ne1 (e ▸ hk), Row.ch D.opn h fun k hk e => D.ne2 (e ▸ hk)⟩
theorem MSx.lt (D : MSx B w nd s i P O q t d q2 t2 d2) : B ≤ w.heap.size := by have := D.lo; have := D.blk.lt; omega
theorem MSx.up (D : MSx B w nd s i P O q t d q2 t2 d2) (h : Ch (· = nd) w w') : Ch (B ≤ ·) w w' := h.mono fun k hk => by subst hk; exact D.lo
theorem MSx.set (D : MSx B w nd s i P O q t d q2 t2 d2) {R : Ending → World → Prop} {Q : Exit → List (Tmp × Value) → World → Prop} {md : Md} [md.Runs] {j : Nat} (hj : j ≤ s.size) {K : T}
    (h : ∀ w1, Ch (· = nd) w w1 → MSx B w1 nd s j P O q t d q2 t2 d2 → wpT Tryz.prog R Q K md w1) : wpT Tryz.prog R Q (.store ⟨nd, 1, none⟩ (.int .i64 (j : Int)) K) md w :=
  st_blk D.blk (by simp) rfl fun w1 h1 z1 b1 => h w1 h1 ⟨b1, (D.rows h1).1, (D.rows h1).2, D.lo, { D.ok with le := hj }⟩
theorem mfault_any (er : Int) (a : Nat) (D : MSx B w nd s i P O q t d q2 t2 d2) (h0 : er ≠ 0) (ha : a ≤ s.size) :
    Calls Tryz.prog 161 #[.pointer (some ⟨nd, 0, none⟩), .int .i64 er, .int .i64 (a : Int)] w fun e w' => e = .returned (.tuple #[]) ∧ Ch (B ≤ ·) w w' ∧ MBad w' nd s (er, (rest s a).length) := by
  refine calls_of_fnT mixed Tryz.func161 (s := s161) ?_
  rw [t161]
  simp only [addr_add, Nat.zero_add]
  refine st_blk D.blk (by simp) rfl fun w1 h1 z1 b1 => st_blk b1 (by simp) rfl fun w2 h2 z2 b2 => ⟨rfl, D.up (h1.trans h2), h0, by rw [restL]; dsimp only; omega, q, t, d, q2, t2, d2, ?_⟩
  dsimp only
  rw [restL, show s.size - (s.size - a) = a by omega]
  exact b2
theorem partCells_one (p : PartM) : partCells [p] = p.cells := by simp [partCells]
theorem madd_any (p : PartM) (j : Nat) (D : MSx B w nd s i P O q t d q2 t2 d2) (hj : j ≤ s.size) (hp : P.length < 12) (hn : 0 ≤ p.n ∧ p.n ≤ 6) :
    Calls Tryz.prog 162 #[.pointer (some ⟨nd, 0, none⟩), .agg #[.int .i64 p.kind, .int .i64 p.int, .string p.text, .int .i64 p.n], .int .i64 (j : Int)] w fun e w' => e = .returned (.tuple #[]) ∧ Ch (B ≤ ·) w w' ∧ ∃ q' t' d', MSx B w' nd s j (P ++ [p]) O q' t' d' q2 t2 d2 := by
  refine calls_of_fnT mixed Tryz.func162 (s := s162) ?_
  rw [t162]
  refine nw fun w1 h1 z1 (b1 : Blk w1 _ p.cells tPart) => ?_
  have D1 := D.no h1
  have hlt := PRow.len D1.row
  have one : ∀ u ∈ p.cells, u.oneCell' = true := fun u hu => by
    simp only [PartM.cells, List.mem_cons, List.mem_nil_iff, or_false] at hu
    rcases hu with rfl | rfl | rfl | rfl <;> rfl
  have hge : ∀ {w : World} {q : Option Addr} {t d : Nat} {P : List PartM}, PRow w B q t d P → ∀ k, rowS q t d k → B ≤ k := fun h k hk => (Row.lt h hk).1
  have hnd : ¬ (w.heap.size = nd) := fun e => by have := D.blk.lt; omega
  refine cut_i mixed s162_2 (fun (_ : Unit) w' => Ch (B ≤ ·) w1 w' ∧ ∃ q' t' d', MSx B w' nd s i (P ++ [p]) O q' t' d' q2 t2 d2) (by kernel_rfl) (fun g => ?_) ?_
  · rw [t162_2]
    simp only [addr_add, Nat.zero_add]
    refine hd_i (fun w' => Blk w' w.heap.size p.cells tPart) (b1.ch (Ch.refl No _).drew (fun h => h)) ?_
    have D1' := D1.no (Ch.refl No _).drew
    have c1 : Ch (B ≤ ·) w1 w1.drew := (Ch.refl _ _).drew
    have bd : Blk w1.drew w.heap.size p.cells tPart := b1.ch (Ch.refl No _).drew (fun h => h)
    refine lh_int (fun _ h => h.cell 0) (lh_int (fun _ h => h.cell 1) (lh_str (fun _ h => h.cell 2) (lh_int (fun _ h => h.cell 3) ?_)))
    -- what both orders end with
    have tail : ∀ {R : Ending → World → Prop} {Q : Exit → List (Tmp × Value) → World → Prop} (hQ : ∀ w', Ch (B ≤ ·) w1 w' → (∃ q' t' d', MSx B w' nd s i (P ++ [p]) O q' t' d' q2 t2 d2) → Q .normal [] w') (w2 : World) (b2 : Nat), Ch (B ≤ ·) w1 w2 → Blk w2 w.heap.size p.cells tPart → MSx B w2 nd s i P O q t d q2 t2 d2 → Blk w2 b2 p.cells tPart →
        wpT Tryz.prog R Q
          (.run (builtin .append #[173, 173] 173 #[false, false] #[.slice q t d, .slice (some ⟨b2, 0, none⟩) 1 1]) (.one (.leaf .sl)) (fun l9 => .back (.eff (.store ⟨nd, 2, none⟩ (.slice l9.1 l9.2.1 l9.2.2) (.back (.undrawn (.fin .normal []))))))) (.ef fun w' => Blk w' w.heap.size p.cells tPart) w2 := fun hQ w2 b2 c2 hb2 D2 k2 => by
      refine ap_blk (by kernel_rfl) infoPart rfl (by omega) D2.row D2.lt k2 rfl one (Nat.le_trans (by omega : t + 1 ≤ 13) (by decide)) (by omega) fun q6 d6 w6 g6 => ?_
      have c6 : Ch (B ≤ ·) w1 w6 := c2.trans (g6.ch.mono fun k hk => hge D2.row k hk)
      have n6 : Blk w6 w.heap.size p.cells tPart := hb2.ch g6.ch fun hk => by
        have hh := Row.lt D.row hk
        omega
      have o6 : Row w6 B tInt 1 q2 t2 d2 (natCells O) := Row.ch D2.opn g6.ch fun k hk hk' => Row.apart D2.opn D2.row (by decide) k hk hk'
      have e6 : Blk w6 nd [.string s, .int .i64 i, .slice q t d, .slice q2 t2 d2, .int .i64 0] tMR := D2.blk.ch g6.ch D2.ne1
      have r6 : PRow w6 B q6 (t + 1) d6 (P ++ [p]) := by
        show Row _ _ _ _ _ _ _ (partCells (P ++ [p]))
        rw [partCells_app, partCells_one]
        exact g6.own
      refine bk n6 (eff_i (st_blk e6 (by simp) rfl fun w7 h7 z7 b7 => bk (n6.ch h7 hnd) (un_h (hQ _ (c6.trans (h7.mono fun k hk => by subst hk; exact D.lo)) ⟨q6, t + 1, d6, b7, ?_, ?_, D.lo, ?_⟩))))
      · exact Row.ch r6 h7 fun k hk e => Row.ne r6 e6 (by decide) (e ▸ hk)
      · exact Row.ch o6 h7 fun k hk e => Row.ne o6 e6 (by decide) (e ▸ hk)
      · refine { D.ok with p12 := by rw [List.length_append, List.length_singleton]; omega, ns := fun x hx => ?_ }
        rcases List.mem_append.1 hx with h | h
        · exact D.ok.ns x h
        · rw [List.mem_singleton.1 h]; exact hn
    have hQ : ∀ w', Ch (B ≤ ·) w1 w' → (∃ q' t' d', MSx B w' nd s i (P ++ [p]) O q' t' d' q2 t2 d2) → (Exit.normal = Exit.normal ∧ ∃ v : MVars mx162_2, ([] : List (Tmp × Value)) = mvals mx162_2 v ∧ (Ch (B ≤ ·) w1 w' ∧ ∃ q' t' d', MSx B w' nd s i (P ++ [p]) O q' t' d' q2 t2 d2)) := fun w' h1 h2 => ⟨rfl, (), rfl, h1, h2⟩
    refine ⟨?_, ?_, trivial⟩
    · refine eff_i (ld_sl (D1'.blk.cell 2) (bk bd (eff_i (nw fun w2 h2 z2 (b2 : Blk w2 _ p.cells tPart) => ?_))))
      have n2 := bd.ch h2 (fun h => h)
      exact bk n2 (eff_i (tail hQ w2 _ (c1.trans h2.no) n2 (D1'.no h2) b2))
    · refine eff_i (nw fun w2 h2 z2 (b2 : Blk w2 _ p.cells tPart) => ?_)
      have n2 := bd.ch h2 (fun h => h)
      have D2 := D1'.no h2
      exact bk n2 (eff_i (ld_sl (D2.blk.cell 2) (bk n2 (eff_i (tail hQ w2 _ (c1.trans h2.no) n2 D2 b2)))))
  rintro ⟨⟩ g w2 ⟨h2, q', t', d', D2⟩
  simp only [addr_add, Nat.zero_add]
  exact D2.set hj fun w3 h3 D3 => ⟨rfl, h1.no.trans (h2.trans (D2.up h3)), q', t', d', D3⟩
theorem fl_i {R : Ending → World → Prop} {Q : Exit → List (Tmp × Value) → World → Prop} {k : (Shape.tup []).Vars → T} (er : Int) (a : Nat) (D : MSx B w nd s i P O q t d q2 t2 d2) (h0 : er ≠ 0) (ha : a ≤ s.size)
    (h : ∀ w', Ch (B ≤ ·) w w' → MBad w' nd s (er, (rest s a).length) → wpT Tryz.prog R Q (k ()) .pl w') : wpT Tryz.prog R Q (.call 161 #[.pointer (some ⟨nd, 0, none⟩), .int .i64 er, .int .i64 (a : Int)] (.tup []) k) .pl w := by
  refine cl_i (mfault_any er a D h0 ha) ?_
  rintro e w' ⟨rfl, h1, h2⟩
  exact ⟨(), rfl, h w' h1 h2⟩
theorem ad_i {R : Ending → World → Prop} {Q : Exit → List (Tmp × Value) → World → Prop} {k : (Shape.tup []).Vars → T} (p : PartM) (j : Nat) (D : MSx B w nd s i P O q t d q2 t2 d2) (hj : j ≤ s.size) (hp : P.length < 12) (hn : 0 ≤ p.n ∧ p.n ≤ 6)
    (h : ∀ w' q' t' d', Ch (B ≤ ·) w w' → MSx B w' nd s j (P ++ [p]) O q' t' d' q2 t2 d2 → wpT Tryz.prog R Q (k ()) .pl w') : wpT Tryz.prog R Q (.call 162 #[.pointer (some ⟨nd, 0, none⟩), .agg #[.int .i64 p.kind, .int .i64 p.int, .string p.text, .int .i64 p.n], .int .i64 (j : Int)] (.tup []) k) .pl w := by
  refine cl_i (madd_any p j D hj hp hn) ?_
  rintro e w' ⟨rfl, h1, q', t', d', h2⟩
  exact ⟨(), rfl, h w' q' t' d' h1 h2⟩
theorem mblanks_any (s : ByteArray) (i : Nat) (w : World) (hs : s.size ≤ 140737488355328) (hi : i ≤ s.size) :
    Calls Tryz.prog 114 #[.string s, .int .i64 (i : Int)] w fun e w' => ∃ j : Nat, e = .returned (.int .i64 (j : Int)) ∧ w' = w ∧ j ≤ s.size ∧ rest s j = blanksM (rest s i) := by
  refine calls_of_fnT mixed Tryz.func114 (s := s114) ?_
  rw [t114]
  refine loop_i mixed m114_1 s114_1 (by kernel_rfl) (by kernel_rfl)
    (fun (v : Int × Unit) w' => w' = w ∧ ∃ j : Nat, v.1 = j ∧ j ≤ s.size ∧ blanksM (rest s j) = blanksM (rest s i))
    (fun (v : Int × Unit) _ => s.size - v.1.toNat) ((i : Int), ()) rfl ⟨rfl, i, rfl, hi, rfl⟩ ?_
  rintro ⟨a, ⟨⟩⟩ g w1 ⟨rfl, j, ha, hj, hb⟩
  dsimp only at ha
  subst ha
  rw [t114_1]
  dsimp only
  have hst := blanksM_step (rest s j)
  have go : ∀ {w' : World}, (pk (rest s j) = 32 ∨ pk (rest s j) = 9) → j < s.size → w' = w1 → ∃ v' : MVars m114_1, [((1 : Nat), Value.int .i64 (IntKind.i64.wrap ((j : Int) + 1)))] = mvals m114_1 v' ∧ (w' = w1 ∧ ∃ k : Nat, v'.1 = k ∧ k ≤ s.size ∧ blanksM (rest s k) = blanksM (rest s i)) ∧ s.size - v'.1.toNat < s.size - (j : Int).toNat := fun h hj h' => by
    have hw1 : IntKind.i64.wrap ((j : Int) + 1) = ((j + 1 : Nat) : Int) := wrap_succ (by omega) (by omega)
    refine ⟨(((j + 1 : Nat) : Int), ()), by rw [hw1]; rfl, ⟨h', j + 1, rfl, hj, ?_⟩, by dsimp only; omega⟩
    rw [if_pos h, rest_tail] at hst
    rw [← hst]; exact hb
  have stop : ¬ (pk (rest s j) = 32 ∨ pk (rest s j) = 9) → rest s j = blanksM (rest s i) := fun h => by
    rw [if_neg h] at hst
    rw [← hb, hst]
  refine br_both (fun e => ?_) fun e => ?_
  · have hj' : j < s.size := by have := lt_t e; omega
    refine bi_i (by omega) (by simpa using hj') ?_
    rw [pk_at hj']
    refine br_both (fun e1 => ?_) fun e1 => bi_i (by omega) (by simpa using hj') ?_
    · have e1 := eq_t e1
      exact go (.inl (by omega)) hj' rfl
    rw [pk_at hj']
    refine br_both (fun e2 => ?_) fun e2 => ?_
    · have e2 := eq_t e2
      exact go (.inr (by omega)) hj' rfl
    · have e1 := eq_f e1
      have e2 := eq_f e2
      exact ⟨rfl, ((j : Int), ()), rfl, fun g => ⟨j, rfl, rfl, hj, stop (by omega)⟩⟩
  · have hj' : ¬ j < s.size := by have := lt_f e; omega
    refine ⟨rfl, ((j : Int), ()), rfl, fun g => ⟨j, rfl, rfl, hj, stop fun h => hj' (pk_lt s j (by omega))⟩⟩
theorem digit_wrap {c k : Nat} (h : k ≤ c) (hc : c < 256) : IntKind.i64.wrap (IntKind.u8.wrap ((c : Int) - (k : Int))) = ((c - k : Nat) : Int) := by
  rw [IntKind.wrap_u8', wrap_in (by omega) (by omega)]; omega
theorem mdigit_any (s : ByteArray) (i : Nat) (w : World) (hs : s.size ≤ 140737488355328) :
    Calls Tryz.prog 188 #[.string s, .int .i64 (i : Int)] w fun e w' => e = .returned (.int .i64 (match hexP (pk (rest s i)) with
      | some x => (x : Int)
      | none => -1)) ∧ w' = w := by
  refine calls_of_fnT mixed Tryz.func188 (s := s188) ?_
  rw [t188]
  refine br_both (fun e => ?_) fun e => ?_
  · have e : s.size ≤ i := by have := ge_t e; omega
    rw [show rest s i = [] from List.drop_of_length_le (by have := sizeB s; omega)]
    exact ⟨rfl, rfl⟩
  have hi : i < s.size := by have := ge_f e; omega
  refine bi_i (by omega) (by simpa using hi) ?_
  rw [pk_at hi]
  have hb := pk_256 (rest s i)
  generalize pk (rest s i) = b at *
  refine cut_i mixed s188_2 (fun v w' => w' = w ∧ v.1 = decide (48 ≤ b ∧ b ≤ 57)) (by kernel_rfl) (fun g => ?_) ?_
  · rw [t188_2]
    refine br_both (fun e => ⟨rfl, (decide ((b : Int) ≤ 57), ()), rfl, rfl, ?_⟩) fun e => ⟨rfl, (false, ()), rfl, rfl, ?_⟩
    · have e := ge_t e
      exact decide_eq_decide.2 ⟨fun h => ⟨by omega, by omega⟩, fun h => by omega⟩
    · have e := ge_f e
      exact (decide_eq_false (by omega)).symm
  rintro ⟨u, ⟨⟩⟩ g w1 ⟨rfl, hu⟩
  dsimp only at hu
  subst hu
  refine br_both (fun e => ?_) fun e1 => ?_
  · have e := of_decide_eq_true e
    rw [show hexP b = some (b - 48) by unfold hexP; rw [if_pos e]]
    exact ⟨by rw [show ((b : Int) - 48) = (b : Int) - ((48 : Nat) : Int) from rfl, digit_wrap e.1 hb], rfl⟩
  have e1 := of_decide_eq_false e1
  refine cut_i mixed s188_4 (fun v w' => w' = w1 ∧ v.1 = decide (97 ≤ b ∧ b ≤ 102)) (by kernel_rfl) (fun g => ?_) ?_
  · rw [t188_4]
    refine br_both (fun e => ⟨rfl, (decide ((b : Int) ≤ 102), ()), rfl, rfl, ?_⟩) fun e => ⟨rfl, (false, ()), rfl, rfl, ?_⟩
    · have e := ge_t e
      exact decide_eq_decide.2 ⟨fun h => ⟨by omega, by omega⟩, fun h => by omega⟩
    · have e := ge_f e
      exact (decide_eq_false (by omega)).symm
  rintro ⟨u, ⟨⟩⟩ g w2 ⟨rfl, hu⟩
  dsimp only at hu
  subst hu
  refine br_both (fun e => ?_) fun e2 => ?_
  · have e := of_decide_eq_true e
    rw [show hexP b = some (b - 87) by unfold hexP; rw [if_neg e1, if_pos e]]
    refine ⟨?_, rfl⟩
    rw [show ((b : Int) - 97) = (b : Int) - ((97 : Nat) : Int) from rfl, digit_wrap e.1 hb, wrap_in (by omega) (by omega), show ((b - 97 : Nat) : Int) + 10 = ((b - 87 : Nat) : Int) by omega]
  have e2 := of_decide_eq_false e2
  refine br_both (fun e3 => br_both (fun e4 => ?_) fun e4 => ?_) fun e3 => ?_
  · have e3 := ge_t e3
    have e4 := le_t e4
    rw [show hexP b = some (b - 55) by unfold hexP; rw [if_neg e1, if_neg e2, if_pos (by omega)]]
    refine ⟨?_, rfl⟩
    rw [show ((b : Int) - 65) = (b : Int) - ((65 : Nat) : Int) from rfl, digit_wrap (by omega) hb, wrap_in (by omega) (by omega), show ((b - 65 : Nat) : Int) + 10 = ((b - 55 : Nat) : Int) by omega]
  · have e4 := le_f e4
    rw [show hexP b = none by unfold hexP; rw [if_neg e1, if_neg e2, if_neg (by omega)]]
    exact ⟨rfl, rfl⟩
  · have e3 := ge_f e3
    rw [show hexP b = none by unfold hexP; rw [if_neg e1, if_neg e2, if_neg (by omega)]]
    exact ⟨rfl, rfl⟩
/-- What escape answers. -/
def EscR (s : ByteArray) (i : Nat) (e : Ending) : Except Flt (UInt8 × List UInt8) → Prop
  | .ok (b, r) => ∃ k : Nat, e = .returned (.tuple #[.int .u8 b.toNat, .int .i64 (k : Int), .int .i64 0]) ∧ 0 < k ∧ i + k ≤ s.size ∧ r = rest s (i + k)
  | .error f => ∃ a : Nat, e = .returned (.tuple #[.int .u8 0, .int .i64 0, .int .i64 (a : Int)]) ∧ a ≤ s.size ∧ f = (28, (rest s a).length)
theorem mescape_any (s : ByteArray) (i : Nat) (w : World) (hs : s.size ≤ 140737488355328) (hi : i < s.size) :
    Calls Tryz.prog 179 #[.string s, .int .i64 (i : Int)] w fun e w' => EscR s i e (escX (rest s (i + 1))) ∧ w' = w := by
  refine calls_of_fnT mixed Tryz.func179 (s := s179) ?_
  rw [t179]
  have hw1 : IntKind.i64.wrap ((i : Int) + 1) = ((i + 1 : Nat) : Int) := wrap_succ (by omega) (by omega)
  have hw2 : IntKind.i64.wrap ((i : Int) + 2) = ((i + 2 : Nat) : Int) := wrap_in (by omega) (by omega)
  have hw3 : IntKind.i64.wrap ((i : Int) + 3) = ((i + 3 : Nat) : Int) := wrap_in (by omega) (by omega)
  rw [hw1, hw2, hw3]
  have t1 : (rest s (i + 1)).tail = rest s (i + 2) := rest_tail s (i + 1)
  have t2 : (rest s (i + 2)).tail = rest s (i + 3) := rest_tail s (i + 2)
  have t3 : (rest s (i + 3)).tail = rest s (i + 4) := rest_tail s (i + 3)
  refine br_both (fun e => ?_) fun e => ?_
  · have e := ge_t e
    have hn : rest s (i + 1) = [] := List.drop_of_length_le (by have := sizeB s; omega)
    rw [hn]
    exact ⟨⟨i + 1, rfl, by omega, by rw [hn]⟩, rfl⟩
  have h1 : i + 1 < s.size := by have := ge_f e; omega
  refine bi_i (by omega) (by simpa using h1) ?_
  rw [pk_at h1]
  have hb := pk_256 (rest s (i + 1))
  have hc : (s[((i + 1 : Nat) : Int).toNat]'(by simpa using h1)).toNat = pk (rest s (i + 1)) := pk_at h1
  have hL : escX (rest s (i + 1)) = if pk (rest s (i + 1)) = 34 then .ok (34, rest s (i + 2)) else if pk (rest s (i + 1)) = 92 then .ok (92, rest s (i + 2)) else if pk (rest s (i + 1)) = 110 then .ok (10, rest s (i + 2)) else if pk (rest s (i + 1)) = 116 then .ok (9, rest s (i + 2))
      else if pk (rest s (i + 1)) = 120 then match hexP (pk (rest s (i + 2))) with
        | none => .error (28, (rest s (i + 2)).length)
        | some x => match hexP (pk (rest s (i + 3))) with
          | none => .error (28, (rest s (i + 3)).length)
          | some y => .ok (UInt8.ofNat (x * 16 + y), rest s (i + 4))
      else .error (28, (rest s (i + 1)).length) := by
    unfold escX
    rw [t1, t2, t3]
    rfl
  rw [hL]
  clear hL
  have ok2 : ∀ (b : UInt8) (e : Ending), e = .returned (.tuple #[.int .u8 b.toNat, .int .i64 2, .int .i64 0]) → EscR s i e (.ok (b, rest s (i + 2))) := fun b e h => ⟨2, h, by omega, by omega, rfl⟩
  have bad : ∀ (a : Nat) (e : Ending), a ≤ s.size → e = .returned (.tuple #[.int .u8 0, .int .i64 0, .int .i64 (a : Int)]) → EscR s i e (.error (28, (rest s a).length)) := fun a e h he => ⟨a, he, h, rfl⟩
  generalize hbb : pk (rest s (i + 1)) = b at *
  refine cut_i mixed s179_2 (fun v w' => w' = w ∧ v.1 = decide (b = 34 ∨ b = 92)) (by kernel_rfl) (fun g => ?_) ?_
  · rw [t179_2]
    refine br_both (fun e => ⟨rfl, (true, ()), rfl, rfl, ?_⟩) fun e => ⟨rfl, ((b : Int) == 92, ()), rfl, rfl, ?_⟩
    · exact (decide_eq_true (.inl (by have := eq_t e; omega))).symm
    · have e := eq_f e
      by_cases h9 : b = 92
      · rw [h9]; rfl
      · rw [decide_eq_false (by omega)]
        exact beq_eq_false_iff_ne.2 (by omega)
  rintro ⟨u, ⟨⟩⟩ g w1 ⟨rfl, hu⟩
  dsimp only at hu
  subst hu
  refine br_both (fun e => ?_) fun e1 => ?_
  · have e := of_decide_eq_true e
    refine bi_i (by omega) (by simpa using h1) ?_
    rw [hc]
    rcases e with e | e <;> subst e
    · rw [if_pos rfl]; exact ⟨ok2 34 _ rfl, rfl⟩
    · rw [if_neg (by decide), if_pos rfl]; exact ⟨ok2 92 _ rfl, rfl⟩
  have e1 := of_decide_eq_false e1
  rw [if_neg (fun h => e1 (.inl h)), if_neg (fun h => e1 (.inr h))]
  refine br_both (fun e => ?_) fun e2 => br_both (fun e => ?_) fun e3 => br_both (fun e => ?_) fun e4 => ?_
  · rw [if_pos (by have := eq_t e; omega)]; exact ⟨ok2 10 _ rfl, rfl⟩
  · have e2 := eq_f e2
    rw [if_neg (by omega), if_pos (by have := eq_t e; omega)]; exact ⟨ok2 9 _ rfl, rfl⟩
  · have e2 := eq_f e2
    have e3 := eq_f e3
    rw [if_neg (by omega), if_neg (by omega), if_pos (by have := eq_t e; omega)]
    refine cl_i (mdigit_any s (i + 2) w1 hs) ?_
    rintro e' w2 ⟨rfl, rfl⟩
    cases hx : hexP (pk (rest s (i + 2))) with
    | none =>
      refine ⟨(-1 : Int), rfl, br_both (fun _ => ⟨bad (i + 2) _ (by omega) rfl, rfl⟩) fun h => ?_⟩
      exact absurd h (by decide)
    | some x =>
      have hx16 := hexP_lt hx
      have h2 : i + 2 < s.size := pk_lt s (i + 2) (by intro h; rw [h] at hx; simp [hexP] at hx)
      refine ⟨(x : Int), rfl, br_both (fun h => ?_) fun _ => ?_⟩
      · have := lt_t h
        omega
      refine cl_i (mdigit_any s (i + 3) w2 hs) ?_
      rintro e' w3 ⟨rfl, rfl⟩
      cases hy : hexP (pk (rest s (i + 3))) with
      | none =>
        refine ⟨(-1 : Int), rfl, br_both (fun _ => ⟨bad (i + 3) _ (by omega) rfl, rfl⟩) fun h => ?_⟩
        exact absurd h (by decide)
      | some y =>
        have hy16 := hexP_lt hy
        have h3 : i + 3 < s.size := pk_lt s (i + 3) (by intro h; rw [h] at hy; simp [hexP] at hy)
        refine ⟨(y : Int), rfl, br_both (fun h => ?_) fun _ => ?_⟩
        · have := lt_t h
          omega
        refine ⟨⟨4, ?_, by omega, by omega, rfl⟩, rfl⟩
        rw [wrap_in (x := (x : Int) * 16) (by omega) (by omega), wrap_in (by omega) (by omega), IntKind.wrap_u8', UInt8.toNat_ofNat']
        congr 2
  · have e2 := eq_f e2
    have e3 := eq_f e3
    have e4 := eq_f e4
    rw [if_neg (by omega), if_neg (by omega), if_neg (by omega)]
    exact ⟨bad (i + 1) _ (by omega) rfl, rfl⟩
abbrev noneB : List UInt8 := [110, 111, 110, 101]
theorem bytesL_get (l : List UInt8) (k : Nat) (h : k < (bytesL l).size) : (bytesL l)[k]'h = l[k]'(by rw [tb_size] at h; exact h) := by
  simp [ByteArray.getElem_eq_getElem_data]
theorem mword_any (D : MSx B w nd s i P O q t d q2 t2 d2) (hp : P.length < 12) :
    Calls Tryz.prog 163 #[.pointer (some ⟨nd, 0, none⟩)] w fun e w' => e = .returned (.tuple #[]) ∧ Ch (B ≤ ·) w w' ∧ match wantX noneB (rest s i) with
      | .error f => MBad w' nd s f
      | .ok r => ∃ j q' t' d', MSx B w' nd s j (P ++ [⟨0, 0, bytesL [], 0⟩]) O q' t' d' q2 t2 d2 ∧ rest s j = r := by
  refine calls_of_fnT mixed Tryz.func163 (s := s163) ?_
  rw [t163]
  simp only [addr_add, Nat.zero_add]
  have hbig := D.ok.big
  have hi := D.ok.le
  refine loop_i mixed m163_1 s163_1 (by kernel_rfl) (by kernel_rfl)
    (fun (v : Int × Unit) w' => Ch No w w' ∧ ∃ k : Nat, v.1 = k ∧ k ≤ 4 ∧ i + k ≤ s.size ∧ wantX (noneB.drop k) (rest s (i + k)) = wantX noneB (rest s i))
    (fun (v : Int × Unit) _ => 4 - v.1.toNat) (0, ()) rfl ⟨Ch.refl _ _, 0, rfl, by omega, hi, rfl⟩ ?_
  rintro ⟨a, ⟨⟩⟩ g w1 ⟨h1, k, ha, hk, hik, hw⟩
  dsimp only at ha
  subst ha
  rw [t163_1]
  simp only [addr_add, Nat.zero_add]
  have D1 := D.no h1
  have hwk : IntKind.i64.wrap ((i : Int) + (k : Int)) = ((i + k : Nat) : Int) := by rw [wrap_in (by omega) (by omega)]; omega
  have hwk1 : IntKind.i64.wrap ((k : Int) + 1) = ((k + 1 : Nat) : Int) := wrap_succ (by omega) (by omega)
  refine br_both (fun e => ?_) fun e => ?_
  · have hk4 : k < 4 := by have := lt_t e; omega
    have hkl : k < noneB.length := hk4
    have hdr : noneB.drop k = noneB[k] :: noneB.drop (k + 1) := List.drop_eq_getElem_cons hkl
    have hne : noneB[k].toNat ≠ 0 := by
      have : ∀ m : Fin 4, (noneB[m.val]'m.isLt).toNat ≠ 0 := by decide
      exact this ⟨k, hk4⟩
    rw [hdr, wantX] at hw
    refine cut_i mixed s163_2 (fun v w' => Ch No w1 w' ∧ v.1 = !decide (pk (rest s (i + k)) = noneB[k].toNat)) (by kernel_rfl) (fun g => ?_) ?_
    · rw [t163_2]
      simp only [addr_add, Nat.zero_add]
      have D2 := D1.no (Ch.refl No _).drew
      refine dr_eq (lq_int (D2.blk.cell 1) (lq_str (D2.blk.cell 0) ?_))
      rw [hwk]
      refine br_both (fun e => un_eq ⟨rfl, (true, ()), rfl, (Ch.refl No _).drew, ?_⟩) fun e => ?_
      · have e := ge_t e
        rw [show rest s (i + k) = [] from List.drop_of_length_le (by have := sizeB s; omega), decide_eq_false (fun h => hne h.symm)]
        rfl
      · have hj : i + k < s.size := by have := ge_f e; omega
        refine lq_str (D2.blk.cell 0) (lq_int (D2.blk.cell 1) ?_)
        rw [hwk]
        refine bi_i (by omega) (by rw [Int.toNat_natCast]; exact hj) (bi_i (by omega) (by rw [tb_size, Int.toNat_natCast]; exact hk4) (un_eq ⟨rfl, (_, ()), rfl, (Ch.refl No _).drew, ?_⟩))
        rw [pk_at hj]
        have hgb : ((bytesL [110, 111, 110, 101])[(k : Int).toNat]'(by rw [tb_size, Int.toNat_natCast]; exact hk4)).toNat = noneB[k].toNat := by
          rw [bytesL_get]
          rfl
        rw [hgb]
        generalize pk (rest s (i + k)) = x
        generalize noneB[k].toNat = y
        show ((x : Int) != (y : Int)) = !decide (x = y)
        by_cases h : x = y
        · subst h; simp
        · rw [decide_eq_false h, bne_iff_ne.2 (by omega)]; rfl
    rintro ⟨u, ⟨⟩⟩ g w2 ⟨h2, hu⟩
    dsimp only at hu
    subst hu
    have D2 := D1.no h2
    refine br_both (fun e => ?_) fun e => ?_
    · have e : ¬ pk (rest s (i + k)) = noneB[k].toNat := fun h => by rw [decide_eq_true h] at e; exact absurd e (by decide)
      rw [if_neg e] at hw
      refine ld_int (D2.blk.cell 1) ?_
      rw [hwk]
      refine cl_i (mfault_any 28 (i + k) D2 (by decide) hik) ?_
      rintro e' w3 ⟨rfl, h3, bad⟩
      refine ⟨(), rfl, (), rfl, fun g => ⟨rfl, (h1.trans h2).no.trans h3, ?_⟩⟩
      rw [← hw]
      exact bad
    · have e : pk (rest s (i + k)) = noneB[k].toNat := Decidable.byContradiction fun h => by rw [decide_eq_false h] at e; exact absurd e (by decide)
      rw [if_pos e, rest_tail] at hw
      have hj : i + k < s.size := pk_lt s (i + k) (by rw [e]; exact hne)
      exact ⟨(((k + 1 : Nat) : Int), ()), by rw [hwk1]; rfl, ⟨h1.trans h2, k + 1, rfl, by omega, by omega, hw⟩, by dsimp only; omega⟩
  · have hk4 : k = 4 := by have := lt_f e; omega
    subst hk4
    refine ⟨rfl, (), rfl, fun g => ?_⟩
    have hw : Except.ok (rest s (i + 4)) = wantX noneB (rest s i) := hw
    rw [← hw]
    refine ld_int (D1.blk.cell 1) ?_
    rw [show IntKind.i64.wrap ((i : Int) + 4) = ((i + 4 : Nat) : Int) from hwk]
    refine cl_i (madd_any ⟨0, 0, bytesL [], 0⟩ (i + 4) D1 hik hp (by decide)) ?_
    rintro e' w3 ⟨rfl, h3, q', t', d', D3⟩
    exact ⟨(), rfl, rfl, h1.no.trans h3, i + 4, q', t', d', D3, rfl⟩
end
end Go.Proofs.YtjlmkahagcojcaaGreatDoor.V
