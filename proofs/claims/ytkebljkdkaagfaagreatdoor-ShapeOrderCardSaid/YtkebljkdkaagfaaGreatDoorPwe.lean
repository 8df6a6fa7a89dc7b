/- A token is read. -/
import Derived.Test.YtkebljkdkaagfaaGreatDoorPwd
namespace Go.Proofs.YtkebljkdkaagfaaGreatDoor.E
open Go Tr
open V (rest rest_cases restL sizeB pk_rest cx_i cp_i extract_list)
set_option maxRecDepth 100000
set_option maxHeartbeats 2000000
/-! the tree of function 55 -/
abbrev fx55_2 (qa0 : Addr) (n1 : Nat) : List (Tmp × Value) := [(0, .pointer (some qa0)), (2, .pointer (some ⟨n1, 0, none⟩))]
abbrev m55_2 : List (Tmp × Comp) := []
abbrev mx55_2 : List (Tmp × Comp) := []
abbrev mr55_2 : List (Tmp × Comp) := []
abbrev fx55_3 (qa0 : Addr) (n1 : Nat) : List (Tmp × Value) := [(0, .pointer (some qa0)), (2, .pointer (some ⟨n1, 0, none⟩))]
abbrev mx55_3 : List (Tmp × Comp) := [(28, .leaf .bool)]
def s55_3 : Script := .qt (.ld (.int .i64) (.ld .str (.sym (.lit (.lit (.lit (.ld .str (.lit (.lit (.lit (.lit (.ld (.int .i64) (.lit (.ix (.lit (.lit .nil))))))))))))) (.lit (.lit (.lit (.lit (.lit (.lit (.lit (.lit (.lit (.lit .nil)))))))))))))
theorem t55_3 (qa0 : Addr) (n1 : Nat) (gg3 : Nat → Value) : pieceT Tryz.prog (at_ Tryz.f55 [1, 0, 0, 0, 0, 0]) 119 (fx55_3 qa0 n1) gg3 (mx55_3.map (·.1)) [] [] s55_3 = .drawn (.load (qa0.add 1) (.int .i64) (fun x4 => .load qa0 .str (fun s5 => .br (Decidable.decide (x4 < (↑s5.size : Int))) (.load qa0 .str (fun s6 => .load (qa0.add 1) (.int .i64) (fun x7 => .bidx s6 x7 (fun c8 => .undrawn (.fin .normal [(28, .bool (c8 == 32))]))))) (.undrawn (.fin .normal [(28, .bool false)]))))) := by kernel_rfl
def s55_2 : Script := .ct 1 [0, 2] mx55_3 (.sym (.ld (.int .i64) .nil) .nil)
theorem t55_2 (qa0 : Addr) (n1 : Nat) (gg2 : Nat → Value) : pieceT Tryz.prog (at_ Tryz.f55 [1, 0, 0, 0]) 119 (fx55_2 qa0 n1 ++ mvals m55_2 (())) gg2 (m55_2.map (·.1)) (mx55_2.map (·.1)) (mr55_2.map (·.1)) s55_2 = .cut (at_ Tryz.f55 [1, 0, 0, 0, 0, 0]) 119 (fx55_3 qa0 n1) mx55_3 (fun u9 g9 => .br u9.1 (.load (qa0.add 1) (.int .i64) (fun x10 => .store (qa0.add 1) (.int .i64 (IntKind.i64.wrap (x10 + 1))) (.fin .normal []))) (.fin (.exit 0) [])) := by kernel_rfl
abbrev fx55_27 (qa0 : Addr) (n1 : Nat) (n13 : Nat) (c26 : Int) : List (Tmp × Value) := [(0, .pointer (some qa0)), (2, .pointer (some ⟨n1, 0, none⟩)), (3, .pointer (some ⟨n13, 0, none⟩)), (4, .int .u8 c26)]
abbrev mx55_27 : List (Tmp × Comp) := [(95, .leaf .bool)]
def s55_27 : Script := .sym (.lit (.lit .nil)) (.lit (.lit .nil))
theorem t55_27 (qa0 : Addr) (n1 : Nat) (n13 : Nat) (c26 : Int) (gg27 : Nat → Value) : pieceT Tryz.prog (at_ Tryz.f55 [1, 1, 1, 1, 1, 0, 0, 0]) 119 (fx55_27 qa0 n1 n13 c26) gg27 (mx55_27.map (·.1)) [] [] s55_27 = .br (Decidable.decide (c26 ≥ 48)) (.fin .normal [(95, .bool (Decidable.decide (c26 ≤ 57)))]) (.fin .normal [(95, .bool false)]) := by kernel_rfl
abbrev fx55_39 (qa0 : Addr) (n1 : Nat) (n13 : Nat) (c26 : Int) : List (Tmp × Value) := [(0, .pointer (some qa0)), (2, .pointer (some ⟨n1, 0, none⟩)), (3, .pointer (some ⟨n13, 0, none⟩)), (4, .int .u8 c26)]
abbrev mx55_39 : List (Tmp × Comp) := [(104, .leaf .bool)]
def s55_39 : Script := .sym (.lit (.lit .nil)) (.lit (.lit .nil))
theorem t55_39 (qa0 : Addr) (n1 : Nat) (n13 : Nat) (c26 : Int) (gg39 : Nat → Value) : pieceT Tryz.prog (at_ Tryz.f55 [1, 1, 1, 1, 1, 0, 0, 1, 1, 0]) 119 (fx55_39 qa0 n1 n13 c26) gg39 (mx55_39.map (·.1)) [] [] s55_39 = .br (Decidable.decide (c26 ≥ 97)) (.fin .normal [(104, .bool (Decidable.decide (c26 ≤ 122)))]) (.fin .normal [(104, .bool false)]) := by kernel_rfl
abbrev fx55_77 (qa0 : Addr) (n1 : Nat) (n13 : Nat) (s61 : ByteArray) (s62 : ByteArray) (s63 : ByteArray) (s64 : ByteArray) (s65 : ByteArray) (s66 : ByteArray) (s67 : ByteArray) (s68 : ByteArray) (s69 : ByteArray) (s70 : ByteArray) (s71 : ByteArray) (s72 : ByteArray) (s73 : ByteArray) (s74 : ByteArray) (s75 : ByteArray) (s76 : ByteArray) : List (Tmp × Value) := [(0, .pointer (some qa0)), (2, .pointer (some ⟨n1, 0, none⟩)), (3, .pointer (some ⟨n13, 0, none⟩)), (62, .agg #[.string s61, .string s62, .string s63, .string s64, .string s65, .string s66, .string s67, .string s68, .string s69, .string s70, .string s71, .string s72, .string s73, .string s74, .string s75, .string s76])]
abbrev m55_77 : List (Tmp × Comp) := [(63, .leaf (.int .i64))]
abbrev mx55_77 : List (Tmp × Comp) := []
abbrev mr55_77 : List (Tmp × Comp) := []
def s55_77 : Script := .sym (.rn (.one (.leaf .str)) (.qt (.ld .str (.ld (.int .i64) (.nd (.cl (.one (.leaf .bool)) (.sym (.ld (.int .i64) (.ld (.int .i64) (.ld (.int .i64) (.ld .str (.ld (.int .i64) .nil))))) .nil))))))) .nil
theorem t55_77 (qa0 : Addr) (n1 : Nat) (n13 : Nat) (s61 : ByteArray) (s62 : ByteArray) (s63 : ByteArray) (s64 : ByteArray) (s65 : ByteArray) (s66 : ByteArray) (s67 : ByteArray) (s68 : ByteArray) (s69 : ByteArray) (s70 : ByteArray) (s71 : ByteArray) (s72 : ByteArray) (s73 : ByteArray) (s74 : ByteArray) (s75 : ByteArray) (s76 : ByteArray) (x_63 : Int) (gg77 : Nat → Value) : pieceT Tryz.prog (at_ Tryz.f55 [1, 1, 1, 1, 1, 0, 0, 1, 1, 1, 1, 1, 1, 1, 0, 1, 0, 0]) 119 (fx55_77 qa0 n1 n13 s61 s62 s63 s64 s65 s66 s67 s68 s69 s70 s71 s72 s73 s74 s75 s76 ++ mvals m55_77 (x_63, ())) gg77 (m55_77.map (·.1)) (mx55_77.map (·.1)) (mr55_77.map (·.1)) s55_77 = .br (Decidable.decide (x_63 < 16)) (.run (vNext (Go.Instr.index 112 (Go.Value.agg #[Go.Value.string s61, Go.Value.string s62, Go.Value.string s63, Go.Value.string s64, Go.Value.string s65, Go.Value.string s66, Go.Value.string s67, Go.Value.string s68, Go.Value.string s69, Go.Value.string s70, Go.Value.string s71, Go.Value.string s72, Go.Value.string s73, Go.Value.string s74, Go.Value.string s75, Go.Value.string s76]) (Go.Value.int IntKind.i64 x_63))) (.one (.leaf .str)) (fun s78 => .drawn (.load qa0 .str (fun s79 => .load (qa0.add 1) (.int .i64) (fun x80 => .need (Decidable.decide (0 ≤ x80 ∧ x80 ≤ (↑s79.size : Int) ∧ (↑s79.size : Int) ≤ (↑s79.size : Int))) (.call 61 #[.string (s79.extract x80.toNat s79.size), .string s78] (.one (.leaf .bool)) (fun b81 => .undrawn (.br b81 (.store ⟨n13, 2, none⟩ (.string s78) (.load (qa0.add 1) (.int .i64) (fun x82 => .store (qa0.add 1) (.int .i64 (IntKind.i64.wrap (x82 + (↑s78.size : Int)))) (.load ⟨n13, 0, none⟩ (.int .i64) (fun x83 => .load ⟨n13, 1, none⟩ (.int .i64) (fun x84 => .load ⟨n13, 2, none⟩ .str (fun s85 => .load ⟨n13, 3, none⟩ (.int .i64) (fun x86 => .store ⟨n1, 0, none⟩ (.int .i64 x83) (.store ⟨n1, 1, none⟩ (.int .i64 x84) (.store ⟨n1, 2, none⟩ (.string s85) (.store ⟨n1, 3, none⟩ (.int .i64 x86) (.fin .ret [])))))))))))) (.fin .normal [(63, .int .i64 (IntKind.i64.wrap (x_63 + 1)))]))))))))) (.fin (.exit 3) []) := by kernel_rfl
def s55 : Script := .lp 0 [0, 2] [] mx55_2 mr55_2 (.ld (.int .i64) (.qt (.ld (.int .i64) (.ld .str (.sym (.ld (.int .i64) (.ld (.int .i64) (.ld .str (.ld (.int .i64) (.ld (.int .i64) (.ld (.int .i64) (.ld .str (.ld (.int .i64) .nil)))))))) (.qt (.ld .str (.ld (.int .i64) (.ix (.ct 1 [0, 2, 3, 4] mx55_27 (.sym (.clp (.tup []) (.ld (.int .i64) (.ld (.int .i64) (.ld .str (.ld (.int .i64) (.ld (.int .i64) (.ld (.int .i64) (.ld .str (.ld (.int .i64) .nil)))))))) .nil) (.ct 0 [0, 2, 3, 4] mx55_39 (.sym (.clp (.tup []) (.ld (.int .i64) (.ld (.int .i64) (.ld .str (.ld (.int .i64) (.ld (.int .i64) (.ld (.int .i64) (.ld .str (.ld (.int .i64) .nil)))))))) .nil) (.sym (.clp (.tup []) (.ld (.int .i64) (.ld (.int .i64) (.ld .str (.ld (.int .i64) (.ld (.int .i64) (.ld (.int .i64) (.ld .str (.ld (.int .i64) .nil)))))))) .nil) (.ld .str (.ld .str (.ld .str (.ld .str (.ld .str (.ld .str (.ld .str (.ld .str (.ld .str (.ld .str (.ld .str (.ld .str (.ld .str (.ld .str (.ld .str (.ld .str (.lp 3 [0, 2, 3, 62] [63] mx55_77 mr55_77 (.ld (.int .i64) (.clx .nil)) (.ld (.int .i64) (.ld (.int .i64) (.ld .str (.ld (.int .i64) .nil))))))))))))))))))))))))))))))))))) .nil
theorem t55 (qa0 : Addr) : fnT Tryz.prog Tryz.f55 #[.pointer (some qa0)] s55 = .new (.cells #[.int .i64 0, .int .i64 0, .string (bytesL []), .int .i64 0] 97 (0, 0)) (fun n1 => .loop (at_ Tryz.f55 [1, 0, 0, 0]) 119 (fx55_2 qa0 n1) [] mx55_2 mr55_2 0 (fun u11 g11 => .load (qa0.add 1) (.int .i64) (fun x12 => .new (.cells #[.int .i64 0, .int .i64 0, .string (bytesL []), .int .i64 0] 97 (0, 0)) (fun n13 => .store ⟨n13, 0, none⟩ (.int .i64 0) (.store ⟨n13, 1, none⟩ (.int .i64 x12) (.store ⟨n13, 2, none⟩ (.string (bytesL [])) (.store ⟨n13, 3, none⟩ (.int .i64 0) (.drawn (.load (qa0.add 1) (.int .i64) (fun x14 => .load qa0 .str (fun s15 => .undrawn (.br (x14 == (↑s15.size : Int)) (.load ⟨n13, 0, none⟩ (.int .i64) (fun x16 => .load ⟨n13, 1, none⟩ (.int .i64) (fun x17 => .load ⟨n13, 2, none⟩ .str (fun s18 => .load ⟨n13, 3, none⟩ (.int .i64) (fun x19 => .store ⟨n1, 0, none⟩ (.int .i64 x16) (.store ⟨n1, 1, none⟩ (.int .i64 x17) (.store ⟨n1, 2, none⟩ (.string s18) (.store ⟨n1, 3, none⟩ (.int .i64 x19) (.load ⟨n1, 0, none⟩ (.int .i64) (fun x20 => .load ⟨n1, 1, none⟩ (.int .i64) (fun x21 => .load ⟨n1, 2, none⟩ .str (fun s22 => .load ⟨n1, 3, none⟩ (.int .i64) (fun x23 => .done (.returned (.agg #[.int .i64 x20, .int .i64 x21, .string s22, .int .i64 x23]))))))))))))))) (.drawn (.load qa0 .str (fun s24 => .load (qa0.add 1) (.int .i64) (fun x25 => .bidx s24 x25 (fun c26 => .undrawn (.cut (at_ Tryz.f55 [1, 1, 1, 1, 1, 0, 0, 0]) 119 (fx55_27 qa0 n1 n13 c26) mx55_27 (fun u28 g28 => .br u28.1 (.callp 58 #[.pointer (some qa0), .pointer (some ⟨n13, 0, none⟩)] (.tup []) (fun r29 => .load ⟨n13, 0, none⟩ (.int .i64) (fun x30 => .load ⟨n13, 1, none⟩ (.int .i64) (fun x31 => .load ⟨n13, 2, none⟩ .str (fun s32 => .load ⟨n13, 3, none⟩ (.int .i64) (fun x33 => .store ⟨n1, 0, none⟩ (.int .i64 x30) (.store ⟨n1, 1, none⟩ (.int .i64 x31) (.store ⟨n1, 2, none⟩ (.string s32) (.store ⟨n1, 3, none⟩ (.int .i64 x33) (.load ⟨n1, 0, none⟩ (.int .i64) (fun x34 => .load ⟨n1, 1, none⟩ (.int .i64) (fun x35 => .load ⟨n1, 2, none⟩ .str (fun s36 => .load ⟨n1, 3, none⟩ (.int .i64) (fun x37 => .done (.returned (.agg #[.int .i64 x34, .int .i64 x35, .string s36, .int .i64 x37]))))))))))))))) (fun ch38 => .done (.panicked ch38))) (.cut (at_ Tryz.f55 [1, 1, 1, 1, 1, 0, 0, 1, 1, 0]) 119 (fx55_39 qa0 n1 n13 c26) mx55_39 (fun u40 g40 => .br u40.1 (.callp 59 #[.pointer (some qa0), .pointer (some ⟨n13, 0, none⟩)] (.tup []) (fun r41 => .load ⟨n13, 0, none⟩ (.int .i64) (fun x42 => .load ⟨n13, 1, none⟩ (.int .i64) (fun x43 => .load ⟨n13, 2, none⟩ .str (fun s44 => .load ⟨n13, 3, none⟩ (.int .i64) (fun x45 => .store ⟨n1, 0, none⟩ (.int .i64 x42) (.store ⟨n1, 1, none⟩ (.int .i64 x43) (.store ⟨n1, 2, none⟩ (.string s44) (.store ⟨n1, 3, none⟩ (.int .i64 x45) (.load ⟨n1, 0, none⟩ (.int .i64) (fun x46 => .load ⟨n1, 1, none⟩ (.int .i64) (fun x47 => .load ⟨n1, 2, none⟩ .str (fun s48 => .load ⟨n1, 3, none⟩ (.int .i64) (fun x49 => .done (.returned (.agg #[.int .i64 x46, .int .i64 x47, .string s48, .int .i64 x49]))))))))))))))) (fun ch50 => .done (.panicked ch50))) (.br (c26 == 34) (.callp 60 #[.pointer (some qa0), .pointer (some ⟨n13, 0, none⟩)] (.tup []) (fun r51 => .load ⟨n13, 0, none⟩ (.int .i64) (fun x52 => .load ⟨n13, 1, none⟩ (.int .i64) (fun x53 => .load ⟨n13, 2, none⟩ .str (fun s54 => .load ⟨n13, 3, none⟩ (.int .i64) (fun x55 => .store ⟨n1, 0, none⟩ (.int .i64 x52) (.store ⟨n1, 1, none⟩ (.int .i64 x53) (.store ⟨n1, 2, none⟩ (.string s54) (.store ⟨n1, 3, none⟩ (.int .i64 x55) (.load ⟨n1, 0, none⟩ (.int .i64) (fun x56 => .load ⟨n1, 1, none⟩ (.int .i64) (fun x57 => .load ⟨n1, 2, none⟩ .str (fun s58 => .load ⟨n1, 3, none⟩ (.int .i64) (fun x59 => .done (.returned (.agg #[.int .i64 x56, .int .i64 x57, .string s58, .int .i64 x59]))))))))))))))) (fun ch60 => .done (.panicked ch60))) (.store ⟨n13, 0, none⟩ (.int .i64 4) (.load ⟨1, 0, none⟩ .str (fun s61 => .load ⟨1, 1, none⟩ .str (fun s62 => .load ⟨1, 2, none⟩ .str (fun s63 => .load ⟨1, 3, none⟩ .str (fun s64 => .load ⟨1, 4, none⟩ .str (fun s65 => .load ⟨1, 5, none⟩ .str (fun s66 => .load ⟨1, 6, none⟩ .str (fun s67 => .load ⟨1, 7, none⟩ .str (fun s68 => .load ⟨1, 8, none⟩ .str (fun s69 => .load ⟨1, 9, none⟩ .str (fun s70 => .load ⟨1, 10, none⟩ .str (fun s71 => .load ⟨1, 11, none⟩ .str (fun s72 => .load ⟨1, 12, none⟩ .str (fun s73 => .load ⟨1, 13, none⟩ .str (fun s74 => .load ⟨1, 14, none⟩ .str (fun s75 => .load ⟨1, 15, none⟩ .str (fun s76 => .loop (at_ Tryz.f55 [1, 1, 1, 1, 1, 0, 0, 1, 1, 1, 1, 1, 1, 1, 0, 1, 0, 0]) 119 (fx55_77 qa0 n1 n13 s61 s62 s63 s64 s65 s66 s67 s68 s69 s70 s71 s72 s73 s74 s75 s76) [(63, .int .i64 0)] mx55_77 mr55_77 3 (fun u87 g87 => .load (qa0.add 1) (.int .i64) (fun x88 => .callx 48 #[.int .i64 31, .int .i64 x88] (fun ch89 => .done (.panicked ch89)))) (fun u90 g90 => .load ⟨n1, 0, none⟩ (.int .i64) (fun x91 => .load ⟨n1, 1, none⟩ (.int .i64) (fun x92 => .load ⟨n1, 2, none⟩ .str (fun s93 => .load ⟨n1, 3, none⟩ (.int .i64) (fun x94 => .done (.returned (.agg #[.int .i64 x91, .int .i64 x92, .string s93, .int .i64 x94])))))))))))))))))))))))))))))))))))))))))))))) (fun u95 g95 => .stuck)) := by kernel_rfl
def tokV (t : Tk) : Value := .agg #[.int .i64 (t.kind : Nat), .int .i64 (t.at_ : Nat), .string (bytesL t.text), .int .i64 (t.num : Nat)]
theorem tok_out {R : Ending → World → Prop} {Q : Exit → List (Tmp × Value) → World → Prop} {w : World} {n1 n2 : Nat} {k a x : Int} {t : Txt} {x0 x1 x2 x3 : Value} (h1 : Blk w n1 [x0, x1, x2, x3] tTok) (h2 : TB w n2 k a t x) (hne : n1 ≠ n2)
    (h : ∀ w', Ch (· = n1) w w' → R (.returned (.agg #[.int .i64 k, .int .i64 a, .string (bytesL t), .int .i64 x])) w') :
    wpT Tryz.prog R Q (.load ⟨n2, 0, none⟩ (.int .i64) (fun x16 => .load ⟨n2, 1, none⟩ (.int .i64) (fun x17 => .load ⟨n2, 2, none⟩ .str (fun s18 => .load ⟨n2, 3, none⟩ (.int .i64) (fun x19 =>
      .store ⟨n1, 0, none⟩ (.int .i64 x16) (.store ⟨n1, 1, none⟩ (.int .i64 x17) (.store ⟨n1, 2, none⟩ (.string s18) (.store ⟨n1, 3, none⟩ (.int .i64 x19)
        (.load ⟨n1, 0, none⟩ (.int .i64) (fun x20 => .load ⟨n1, 1, none⟩ (.int .i64) (fun x21 => .load ⟨n1, 2, none⟩ .str (fun s22 => .load ⟨n1, 3, none⟩ (.int .i64) (fun x23 =>
          .done (.returned (.agg #[.int .i64 x20, .int .i64 x21, .string s22, .int .i64 x23]))))))))))))))) .pl w := by
  refine ld_int (Blk.cell h2 0) (ld_int (Blk.cell h2 1) (ld_str (Blk.cell h2 2) (ld_int (Blk.cell h2 3) ?_)))
  refine st_blk h1 (by simp) rfl fun w2 h2' z2 b2 => st_blk b2 (by simp) rfl fun w3 h3 z3 b3 => st_blk b3 (by simp) rfl fun w4 h4 z4 b4 => st_blk b4 (by simp) rfl fun w5 h5 z5 b5 => ?_
  exact ld_int (b5.cell 0) (ld_int (b5.cell 1) (ld_str (b5.cell 2) (ld_int (b5.cell 3) (h _ (h2'.trans (h3.trans (h4.trans h5)))))))
def isSp : Txt → Bool
  | [] => false
  | c :: _ => decide (c = 32)
theorem sp_i {R : Ending → World → Prop} {Q : Exit → List (Tmp × Value) → World → Prop} {w : World} {b : Nat} {s : ByteArray} {i : Nat} {q : PQ} (hb : PB w b s i q) (hi : i ≤ s.size) {K : Bool → T} (h : wpT Tryz.prog R Q (K (isSp (rest s i))) .pl w.drew) :
    wpT Tryz.prog R Q (.drawn (.load ⟨b, 1, none⟩ (.int .i64) (fun x3 => .load ⟨b, 0, none⟩ .str (fun s4 => .br (Decidable.decide (x3 < (↑s4.size : Int)))
      (.load ⟨b, 0, none⟩ .str (fun s5 => .load ⟨b, 1, none⟩ (.int .i64) (fun x6 => .bidx s5 x6 (fun c7 => .undrawn (K (c7 == 32))))))
      (.undrawn (K false)))))) .pl w := by
  have b1 : PB w.drew b s i q := hb.ch (Ch.refl No w).drew (fun h => h)
  refine dr_eq (lq_int b1.c1 (lq_str b1.c0 (br_both (fun e => ?_) fun e => ?_)))
  · have e := lt_t e
    have hlt : i < s.size := by omega
    have hr := pk_rest hlt
    refine lq_str b1.c0 (lq_int b1.c1 (bi_i (by omega) hlt (un_eq ?_)))
    have hv : isSp (rest s i) = ((((s[i]'hlt).toNat : Nat) : Int) == 32) := by
      rw [hr]
      show decide (s[i]'hlt = 32) = _
      have : (s[i]'hlt = 32) ↔ ((((s[i]'hlt).toNat : Nat) : Int) = 32) := by
        rw [← UInt8.toNat_inj]
        show (s[i]'hlt).toNat = 32 ↔ _
        omega
      rw [decide_eq_decide.2 this]
      rfl
    rw [hv] at h
    exact h
  · have e := lt_f e
    rcases rest_cases s i hi with ⟨hr, _⟩ | ⟨hlt, _⟩
    · rw [hr] at h
      exact un_eq h
    · omega
theorem skB_cons (c : UInt8) (r : Txt) : skB (c :: r) = if c = 32 then skB r else c :: r := rfl
theorem signB_some {l t : Txt} {k : Nat} (ht : signsM[k]? = some t) (hp : t.isPrefixOf l = true) (hno : ∀ m u, m < k → signsM[m]? = some u → u.isPrefixOf l = false) : signB l = some t := by
  unfold signB
  rw [List.find?_eq_some_iff_getElem]
  obtain ⟨hk, e⟩ := List.getElem?_eq_some_iff.1 ht
  refine ⟨hp, k, hk, e, fun m hm => ?_⟩
  rw [hno m _ hm (List.getElem?_eq_getElem (by omega))]
  rfl
theorem signB_none {l : Txt} (hno : ∀ m u, m < 16 → signsM[m]? = some u → u.isPrefixOf l = false) : signB l = none := by
  unfold signB
  rw [List.find?_eq_none]
  intro u hu
  obtain ⟨m, hm, e⟩ := List.getElem_of_mem hu
  have hlen : signsM.length = 16 := rfl
  rw [hno m u (by omega) (by rw [List.getElem?_eq_getElem hm, e])]
  exact Bool.false_ne_true
def ReadR (w : World) (b : Nat) (s : ByteArray) (q : PQ) (r : Except Er (Tk × Txt)) (e : Ending) (w' : World) : Prop := Ch (· = b) w w' ∧ match r with
  | .error c => Thrown w w' e (c.1 : Nat) (c.2 : Nat)
  | .ok t => e = .returned (tokV t.1) ∧ ∃ j, j ≤ s.size ∧ t.2 = rest s j ∧ PB w' b s j q
theorem lexB_nil {L : Nat} {l : Txt} (h : skB l = []) : lexB L l = .ok (⟨0, L, [], 0⟩, []) := by unfold lexB; rw [h]
theorem lexB_cons {L : Nat} {l r : Txt} {c : UInt8} (h : skB l = c :: r) : lexB L l = if isD c = true then match numB 0 (c :: r) with
      | none => .error (32, L - (c :: r).length)
      | some (n, r') => .ok (⟨1, L - (c :: r).length, [], n⟩, r')
    else if isL c = true then
      (if wordsM.contains ((c :: r).takeWhile isL) = true ∨ (findB ((c :: r).takeWhile isL)).isSome = true then .ok (⟨2, L - (c :: r).length, (c :: r).takeWhile isL, 0⟩, (c :: r).dropWhile isL)
      else .error (34, L - (c :: r).length))
    else if c = 34 then match quoB (c :: r) with
      | none => .error (33, L - (c :: r).length)
      | some (t, r') => .ok (⟨3, L - (c :: r).length, t, 0⟩, r')
    else match signB (c :: r) with
      | some s => .ok (⟨4, L - (c :: r).length, s, 0⟩, (c :: r).drop s.length)
      | none => .error (31, L - (c :: r).length) := by
  unfold lexB
  rw [h]
  rfl
theorem read_any (w : World) (b : Nat) (s : ByteArray) (i : Nat) (q : PQ) (hb : PB w b s i q) (hG : GlE w) (hbb : 11 ≤ b) (hi : i ≤ s.size) (hs : s.size ≤ 100) :
    Calls Tryz.prog 55 #[.pointer (some ⟨b, 0, none⟩)] w (ReadR w b s q (lexB s.size (rest s i))) := by
  refine calls_of_fnT mixed Tryz.func55 (s := s55) ?_
  rw [t55]
  simp only [addr_add, Nat.zero_add]
  refine nw fun w1 h1 z1 n1 => ?_
  have hblt : b < w.heap.size := Blk.lt hb
  have hgb := hG.big
  generalize hn1 : w.heap.size = n1' at *
  refine loop_i mixed m55_2 s55_2 (by kernel_rfl) (by kernel_rfl)
    (fun (_ : Unit) w' => ∃ j : Nat, j ≤ s.size ∧ PB w' b s j q ∧ Ch (· = b) w1 w' ∧ skB (rest s i) = skB (rest s j))
    (fun (_ : Unit) w' => left_ b s w') () rfl ⟨i, hi, hb.ch h1 (fun h => h), Ch.refl _ _, rfl⟩ ?_
  rintro ⟨⟩ g w2 ⟨j, hj, b2, h2, hsk⟩
  rw [t55_2]
  simp only [addr_add, Nat.zero_add]
  refine cut_i mixed s55_3 (fun (v : Bool × Unit) w' => w' = w2.drew ∧ v.1 = isSp (rest s j)) (by kernel_rfl) (fun g => ?_) ?_
  · rw [t55_3]
    simp only [addr_add, Nat.zero_add]
    exact sp_i b2 hj (K := fun v => .fin .normal [(_, .bool v)]) ⟨rfl, (_, ()), rfl, rfl, rfl⟩
  rintro ⟨u, ⟨⟩⟩ g w3 ⟨rfl, hu⟩
  dsimp only at hu
  subst hu
  have hd := (Ch.refl No w2).drew
  have b3 := b2.ch hd (fun h => h)
  have h3 := h2.trans hd.no
  have l3 : left_ b s w2 = s.size - j := left_at b2
  generalize w2.drew = w3 at *
  refine br_both (fun e => ?_) fun e => ?_
  · rcases rest_cases s j hj with ⟨hr, _⟩ | ⟨hlt, hr⟩
    · rw [hr] at e; cases e
    rw [hr] at e
    have e : s[j]'hlt = 32 := of_decide_eq_true e
    refine ld_int b3.c1 (st_next b3 (by omega) fun w4 h4 b4 => ?_)
    refine ⟨(), rfl, ⟨j + 1, by omega, b4, h3.trans h4, ?_⟩, ?_⟩
    · rw [hsk, hr, skB_cons, if_pos e]
    · show left_ b s w4 < left_ b s w2
      rw [left_at b4, l3]
      omega
  refine ⟨rfl, (), rfl, fun g => ?_⟩
  have hend : skB (rest s j) = rest s j := by
    rcases rest_cases s j hj with ⟨hr, _⟩ | ⟨hlt, hr⟩
    · rw [hr]; rfl
    · rw [hr] at e
      have e : ¬ s[j]'hlt = 32 := of_decide_eq_false e
      rw [hr, skB_cons, if_neg e]
  rw [hend] at hsk
  clear e hend
  have n3 : Blk w3 n1' [.int .i64 0, .int .i64 0, .string (bytesL []), .int .i64 0] tTok := n1.ch h3 (fun e : n1' = b => by omega)
  refine ld_int b3.c1 (nw fun w4 h4 z4 n4 => st_blk n4 (by simp) rfl fun w5 h5 z5 n5 => st_blk n5 (by simp) rfl fun w6 h6 z6 n6 => st_blk n6 (by simp) rfl fun w7 h7 z7 n7 => st_blk n7 (by simp) rfl fun w8 h8 z8 n8 => ?_)
  have hn1lt := n3.lt
  generalize hn2 : w3.heap.size = n2' at *
  have h48 := h5.trans (h6.trans (h7.trans h8))
  have b8 := (b3.ch h4 (fun h => h)).ch h48 (fun e : b = n2' => by omega)
  have m8 := (n3.ch h4 (fun h => h)).ch h48 (fun e : n1' = n2' => by omega)
  replace n8 : TB w8 n2' 0 (j : Nat) [] 0 := n8
  have hs1 := h1.size
  have hs3 := h3.size
  have H8 : Ch (· = b) w w8 := (h1.no.trans (h3.trans h4.no)).then_ h48 (fun i hi (e : i = n2') => by omega)
  clear h48 h5 h6 h7 h8 n4 n5 n6 n7 z5 z6 z7 z8
  have hd8 := (Ch.refl No w8).drew
  have b9 := b8.ch hd8 (fun h => h)
  have m9 := m8.ch hd8 (fun h => h)
  have n9 : TB w8.drew n2' 0 (j : Nat) [] 0 := Blk.ch n8 hd8 (fun h => h)
  have H9 := H8.trans hd8.no
  refine dr_eq (lq_int b9.c1 (lq_str b9.c0 (un_eq ?_)))
  generalize w8.drew = w9 at *
  -- what comes back from one of the three
  have out : ∀ {w10 : World} {k a x : Int} {t : Txt} {R' : World → Prop}, Ch (fun z => z = b ∨ z = n2') w9 w10 → TB w10 n2' k a t x → True := fun _ _ => trivial
  clear out
  have hjl : s.size - (rest s j).length = j := by rw [restL]; omega
  refine br_both (fun e => ?_) fun e => ?_
  · have e : j = s.size := by have := eq_t e; omega
    have hr : rest s j = [] := List.drop_of_length_le (by have := sizeB s; omega)
    refine tok_out m9 n9 (by omega) fun w10 h10 => ⟨H9.then_ h10 (fun i hi (e : i = n1') => by omega), ?_⟩
    rw [lexB_nil (by rw [hsk, hr])]
    refine ⟨?_, j, hj, hr.symm, b9.ch h10 (fun e : b = n1' => by omega)⟩
    unfold tokV
    rw [e]
    rfl
  have e : j ≠ s.size := by have := eq_f e; omega
  have hlt : j < s.size := by omega
  have hr := pk_rest hlt
  obtain ⟨c, hc⟩ : ∃ c, c = s[j]'hlt := ⟨_, rfl⟩
  have hlx := lexB_cons (L := s.size) (l := rest s i) (c := c) (r := rest s (j + 1)) (by rw [hsk, hr, hc])
  have hcr : c :: rest s (j + 1) = rest s j := by rw [hr, hc]
  rw [hcr, hjl] at hlx
  have hd9 := (Ch.refl No w9).drew
  have b10 := b9.ch hd9 (fun h => h)
  have m10 := m9.ch hd9 (fun h => h)
  have n10 : TB w9.drew n2' 0 (j : Nat) [] 0 := Blk.ch n9 hd9 (fun h => h)
  have H10 := H9.trans hd9.no
  refine dr_eq (lq_str b10.c0 (lq_int b10.c1 (bi_i (by omega) hlt (un_eq ?_))))
  generalize w9.drew = w10 at *
  rw [show s[((j : Nat) : Int).toNat]'hlt = c from hc.symm]
  have G10 : GlE w10 := hG.ch (B := 11) (H10.mono fun k (h : k = b) => by show 11 ≤ k; omega) (Nat.le_refl _)
  have hn2g : 11 ≤ n2' := by omega
  have hbn : b ≠ n2' := by omega
  have fin3 : ∀ {w11 : World}, Ch (fun k => k = b ∨ k = n2') w10 w11 → Ch (· = b) w w11 := fun h11 => H10.then_ h11 (fun i hi h => by rcases h with h | h; exact h; omega)
  rw [hlx]
  clear hlx
  refine cut_i mixed s55_27 (fun (v : Bool × Unit) w' => w' = w10 ∧ v.1 = isD c) (by kernel_rfl) (fun g => ?_) ?_
  · rw [t55_27]
    unfold isD
    refine br_both (fun e => ⟨rfl, (_, ()), rfl, rfl, ?_⟩) fun e => ⟨rfl, (_, ()), rfl, rfl, ?_⟩
    · have e := ge_t e
      rw [decide_eq_true (show 48 ≤ c.toNat by omega), Bool.true_and]
      exact decide_eq_decide.2 (by omega)
    · have e := ge_f e
      rw [decide_eq_false (show ¬ 48 ≤ c.toNat by omega), Bool.false_and]
  rintro ⟨u, ⟨⟩⟩ g w11 ⟨rfl, hu⟩
  dsimp only at hu
  subst hu
  refine br_both (fun e => ?_) fun e => ?_
  · rw [if_pos e]
    refine cp_i (number_any w11 b n2' s j q (j : Nat) b10 n10 hbn hj hs) ?_
    rintro e w12 ⟨h12, hx⟩
    cases hq : numB 0 (rest s j) with
    | none =>
      rw [hq] at hx
      obtain ⟨fb, f1, rfl, f3⟩ := hx
      exact .inr ⟨_, rfl, fin3 h12, fb, Nat.le_trans H10.size f1, rfl, f3⟩
    | some y =>
      obtain ⟨x, r⟩ := y
      rw [hq] at hx
      obtain ⟨rfl, j', hjj, hj', rfl, b12, n12⟩ := hx
      refine .inl ⟨(), rfl, tok_out (m10.ch h12 (fun h => by rcases h with h | h <;> omega)) n12 (by omega) fun w13 h13 => ⟨(fin3 h12).then_ h13 (fun i hi (e : i = n1') => by omega), rfl, j', hj', rfl, b12.ch h13 (fun e : b = n1' => by omega)⟩⟩
  rw [if_neg (fun h => by rw [h] at e; cases e)]
  clear e
  refine cut_i mixed s55_39 (fun (v : Bool × Unit) w' => w' = w11 ∧ v.1 = isL c) (by kernel_rfl) (fun g => ?_) ?_
  · rw [t55_39]
    unfold isL
    refine br_both (fun e => ⟨rfl, (_, ()), rfl, rfl, ?_⟩) fun e => ⟨rfl, (_, ()), rfl, rfl, ?_⟩
    · have e := ge_t e
      rw [decide_eq_true (show 97 ≤ c.toNat by omega), Bool.true_and]
      exact decide_eq_decide.2 (by omega)
    · have e := ge_f e
      rw [decide_eq_false (show ¬ 97 ≤ c.toNat by omega), Bool.false_and]
  rintro ⟨u, ⟨⟩⟩ g w12 ⟨rfl, hu⟩
  dsimp only at hu
  subst hu
  refine br_both (fun e => ?_) fun e => ?_
  · rw [if_pos e]
    refine cp_i (word_any w12 b n2' s j q b10 n10 G10 hbn hbb hn2g hj hs) ?_
    rintro e w13 ⟨h13, hx⟩
    by_cases hq : wordsM.contains ((rest s j).takeWhile isL) = true ∨ (findB ((rest s j).takeWhile isL)).isSome = true
    · rw [if_pos hq] at hx ⊢
      obtain ⟨rfl, j', hjj, hj', hr', b13, n13⟩ := hx
      refine .inl ⟨(), rfl, tok_out (m10.ch h13 (fun h => by rcases h with h | h <;> omega)) n13 (by omega) fun w14 h14 => ⟨(fin3 h13).then_ h14 (fun i hi (e : i = n1') => by omega), rfl, j', hj', hr', b13.ch h14 (fun e : b = n1' => by omega)⟩⟩
    · rw [if_neg hq] at hx ⊢
      obtain ⟨fb, f1, rfl, f3⟩ := hx
      exact .inr ⟨_, rfl, fin3 h13, fb, Nat.le_trans H10.size f1, rfl, f3⟩
  rw [if_neg (fun h => by rw [h] at e; cases e)]
  clear e
  have h34 : ((c.toNat : Int) = 34 ↔ c = 34) := by
    rw [← UInt8.toNat_inj]
    show _ ↔ c.toNat = 34
    omega
  refine br_both (fun e => ?_) fun e => ?_
  · have e : c = 34 := h34.1 (eq_t e)
    rw [if_pos e]
    refine cp_i (quoted_any w12 b n2' s j q b10 n10 G10 hbn hbb hn2g hlt hs) ?_
    rintro e w13 ⟨h13, hx⟩
    cases hq : quoB (rest s j) with
    | none =>
      rw [hq] at hx
      obtain ⟨fb, f1, rfl, f3⟩ := hx
      exact .inr ⟨_, rfl, fin3 h13, fb, Nat.le_trans H10.size f1, rfl, f3⟩
    | some y =>
      obtain ⟨t, r⟩ := y
      rw [hq] at hx
      obtain ⟨rfl, j', hjj, hj', rfl, b13, n13⟩ := hx
      refine .inl ⟨(), rfl, tok_out (m10.ch h13 (fun h => by rcases h with h | h <;> omega)) n13 (by omega) fun w14 h14 => ⟨(fin3 h13).then_ h14 (fun i hi (e : i = n1') => by omega), rfl, j', hj', rfl, b13.ch h14 (fun e : b = n1' => by omega)⟩⟩
  have e : ¬ c = 34 := fun h => eq_f e (h34.2 h)
  rw [if_neg e]
  refine st_blk n10 (by simp) rfl fun w13 h13 z13 n13 => ?_
  have b13 := b10.ch h13 (fun e : b = n2' => by omega)
  have m13 := m10.ch h13 (fun e : n1' = n2' => by omega)
  replace n13 : TB w13 n2' 4 (j : Nat) [] 0 := n13
  have H13 : Ch (· = b) w w13 := fin3 (h13.mono fun k h => .inr h)
  have G13 : GlE w13 := hG.ch (B := 11) (H13.mono fun k (h : k = b) => by show 11 ≤ k; omega) (Nat.le_refl _)
  refine ld_str (G13.signs 0 _ rfl) (ld_str (G13.signs 1 _ rfl) (ld_str (G13.signs 2 _ rfl) (ld_str (G13.signs 3 _ rfl) (ld_str (G13.signs 4 _ rfl) (ld_str (G13.signs 5 _ rfl) (ld_str (G13.signs 6 _ rfl) (ld_str (G13.signs 7 _ rfl) (ld_str (G13.signs 8 _ rfl) (ld_str (G13.signs 9 _ rfl) (ld_str (G13.signs 10 _ rfl) (ld_str (G13.signs 11 _ rfl) (ld_str (G13.signs 12 _ rfl) (ld_str (G13.signs 13 _ rfl) (ld_str (G13.signs 14 _ rfl) (ld_str (G13.signs 15 _ rfl) ?_)))))))))))))))
  clear G13 G10
  refine loop_i mixed m55_77 s55_77 (by kernel_rfl) (by kernel_rfl)
    (fun (v : Int × Unit) w' => ∃ k : Nat, v.1 = k ∧ k ≤ 16 ∧ Ch No w13 w' ∧ ∀ m u, m < k → signsM[m]? = some u → u.isPrefixOf (rest s j) = false)
    (fun (v : Int × Unit) _ => 16 - v.1.toNat) (0, ()) rfl ⟨0, rfl, by omega, Ch.refl _ _, fun m t hm => by omega⟩ ?_
  rintro ⟨_, ⟨⟩⟩ gg w14 ⟨k, rfl, hk, h14, hno⟩
  rw [t55_77]
  have b14 := b13.ch h14 (fun h => h)
  have m14 := m13.ch h14 (fun h => h)
  have n14 : TB w14 n2' 4 (j : Nat) [] 0 := Blk.ch n13 h14 (fun h => h)
  have H14 := H13.trans h14.no
  refine br_both (fun e => ?_) fun e => ?_
  · have e : (k : Int) < 16 := lt_t e
    have hk' : k < 16 := by omega
    have hlen : signsM.length = 16 := rfl
    obtain ⟨t, ht⟩ : ∃ t, signsM[k]? = some t := ⟨signsM[k]'(by omega), List.getElem?_eq_getElem (by omega)⟩
    have htl : t.length ≤ 2 ∧ 1 ≤ t.length := by
      have : ∀ u ∈ signsM, u.length ≤ 2 ∧ 1 ≤ u.length := by decide
      exact this t (List.mem_of_getElem? ht)
    refine t_run (x := bytesL t) (w' := w14) ?_ ?_
    · rcases (by omega : k = 0 ∨ k = 1 ∨ k = 2 ∨ k = 3 ∨ k = 4 ∨ k = 5 ∨ k = 6 ∨ k = 7 ∨ k = 8 ∨ k = 9 ∨ k = 10 ∨ k = 11 ∨ k = 12 ∨ k = 13 ∨ k = 14 ∨ k = 15) with rfl | rfl | rfl | rfl | rfl | rfl | rfl | rfl | rfl | rfl | rfl | rfl | rfl | rfl | rfl | rfl <;>
        (obtain rfl := Option.some.inj ht; kernel_rfl)
    simp only [addr_add, Nat.zero_add]
    have hd14 := (Ch.refl No w14).drew
    have b15 := b14.ch hd14 (fun h => h)
    have m15 := m14.ch hd14 (fun h => h)
    have n15 : TB w14.drew n2' 4 (j : Nat) [] 0 := Blk.ch n14 hd14 (fun h => h)
    have H15 := H14.trans hd14.no
    have h15 := h14.trans hd14
    refine dr_eq (lq_str b15.c0 (lq_int b15.c1 (nd3 (by omega) (by omega) (by omega) ?_)))
    generalize w14.drew = w15 at *
    refine cq (x := t.isPrefixOf (rest s j)) (fun w' hw => (Tryz.strings_HasPrefix (s.extract ((j : Nat) : Int).toNat s.size) (bytesL t) w').mono ?_) (un_eq ?_)
    · rintro e w'' ⟨rfl, rfl⟩
      refine ⟨?_, hw⟩
      rw [Int.toNat_natCast, extract_list, tb_data, List.take_of_length_le (by rw [restL]; omega)]
      rfl
    refine br_both (fun e1 => ?_) fun e1 => ?_
    · refine st_blk n15 (by simp) rfl fun w16 h16 z16 n16 => ?_
      have b16 := b15.ch h16 (fun e : b = n2' => by omega)
      have m16 := m15.ch h16 (fun e : n1' = n2' => by omega)
      replace n16 : TB w16 n2' 4 (j : Nat) t 0 := n16
      have hpl : t.length ≤ (rest s j).length := (List.isPrefixOf_iff_prefix.1 e1).length_le
      rw [restL] at hpl
      have hw : IntKind.i64.wrap (((j : Nat) : Int) + ((bytesL t).size : Int)) = ((j + t.length : Nat) : Int) := by
        rw [tb_size, wrap_in (by omega) (by omega)]
        omega
      refine ld_int b16.c1 ?_
      rw [hw]
      refine st_blk b16 (by simp) rfl fun w17 h17 z17 b17 => ?_
      replace b17 : PB w17 b s (j + t.length) q := b17
      have m17 := m16.ch h17 (fun e : n1' = b => by omega)
      have n17 : TB w17 n2' 4 (j : Nat) t 0 := Blk.ch n16 h17 (fun e : n2' = b => by omega)
      refine ld_int (Blk.cell n17 0) (ld_int (Blk.cell n17 1) (ld_str (Blk.cell n17 2) (ld_int (Blk.cell n17 3) ?_)))
      refine st_blk m17 (by simp) rfl fun w18 h18 z18 b18 => st_blk b18 (by simp) rfl fun w19 h19 z19 b19 => st_blk b19 (by simp) rfl fun w20 h20 z20 b20 => st_blk b20 (by simp) rfl fun w21 h21 z21 b21 => ?_
      refine ⟨(), rfl, fun g => ld_int (b21.cell 0) (ld_int (b21.cell 1) (ld_str (b21.cell 2) (ld_int (b21.cell 3) ⟨?_, ?_⟩)))⟩
      · have hA : Ch (· = b) w w17 := H15.then_ ((h16.mono fun k h => .inr h).trans (h17.mono fun k h => .inl h) : Ch (fun k => k = b ∨ k = n2') w15 w17) (fun i hi h => by rcases h with h | h; exact h; omega)
        exact hA.then_ (h18.trans (h19.trans (h20.trans h21))) (fun i hi (e : i = n1') => by omega)
      · rw [signB_some ht e1 hno]
        refine ⟨rfl, j + t.length, by omega, ?_, b17.ch (h18.trans (h19.trans (h20.trans h21))) (fun e : b = n1' => by omega)⟩
        show (rest s j).drop t.length = _
        show List.drop _ (List.drop _ _) = List.drop _ _
        rw [List.drop_drop]
    · refine ⟨((IntKind.i64.wrap ((k : Int) + 1)), ()), rfl, ⟨k + 1, wrap_succ (by omega) (by omega), by omega, h15, fun m u hm hu => ?_⟩, ?_⟩
      · rcases (by omega : m < k ∨ m = k) with h | rfl
        · exact hno m u h hu
        · rw [ht] at hu
          obtain rfl := Option.some.inj hu
          exact e1
      · show 16 - (IntKind.i64.wrap ((k : Int) + 1)).toNat < 16 - ((k : Nat) : Int).toNat
        rw [wrap_succ (by omega) (by omega)]
        omega
  · have e : (16 : Int) ≤ (k : Int) := lt_f e
    refine ⟨rfl, (), rfl, fun g => ?_⟩
    refine ld_int b14.c1 (cx_i (giveUp_any _ _ w14) ?_)
    rintro r w15 ⟨h15, fb, f1, rfl, f3⟩
    refine ⟨_, rfl, H14.trans h15.no, ?_⟩
    rw [signB_none (fun m u hm hu => hno m u (by omega) hu)]
    exact ⟨fb, Nat.le_trans H14.size f1, rfl, f3⟩
end Go.Proofs.YtkebljkdkaagfaaGreatDoor.E
