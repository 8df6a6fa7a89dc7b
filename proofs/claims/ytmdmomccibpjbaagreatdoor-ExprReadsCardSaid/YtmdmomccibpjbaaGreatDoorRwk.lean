/- The document's reader in memory; its signs. The document's reader: the walk of signs. The document's reader: levels. -/
import Derived.Test.YtmdmomccibpjbaaGreatDoorRwh
namespace Go.Proofs.YtmdmomccibpjbaaGreatDoor.E
open Go Tr
open V (rest rest_cases restL sizeB pk_rest cx_i cp_i extract_list pk hexP)
set_option maxRecDepth 100000
set_option maxHeartbeats 2000000
/-! the tree of function 48 -/
abbrev fx48_4 (qa0 : Addr) (qx1 : Int) (n1 : Nat) (c3 : Int) : List (Tmp × Value) := [(0,.pointer (some qa0)),(1,.int .i64 qx1),(4,.pointer (some ⟨n1,0,none⟩)),(6,.int .u8 c3)]
abbrev mx48_4 : List (Tmp × Comp) := [(7,.leaf .bool)]
def s48_4 : Script := .ld .str (.sym (.lit (.lit (.lit (.ld .str (.lit (.lit (.lit (.ix (.lit (.lit .nil)))))))))) (.lit (.lit (.lit (.lit (.lit (.lit (.lit (.lit .nil)))))))))
theorem t48_4 (qa0 : Addr) (qx1 : Int) (n1 : Nat) (c3 : Int) (gg4 : Nat → Value) : pieceT Tryz.prog (at_ Tryz.f48 [1,1,0]) 75 (fx48_4 qa0 qx1 n1 c3) gg4 (mx48_4.map (·.1)) [] [] s48_4 = .load qa0 .str (fun s5 => .br (Decidable.decide (IntKind.i64.wrap (qx1 + 1) < (↑s5.size : Int))) (.load qa0 .str (fun s6 => .bidx s6 (IntKind.i64.wrap (qx1 + 1)) (fun c7 => .fin .normal [(7,.bool (c7 == 61))]))) (.fin .normal [(7,.bool false)])) := by kernel_rfl
abbrev fx48_9 (qa0 : Addr) (qx1 : Int) (n1 : Nat) (c3 : Int) (u8 : Bool × Unit) : List (Tmp × Value) := [(0,.pointer (some qa0)),(1,.int .i64 qx1),(4,.pointer (some ⟨n1,0,none⟩)),(7,.bool u8.1),(8,.int .i64 0),(34,.int .u8 c3)]
abbrev mx48_9 : List (Tmp × Comp) := [(35,.leaf .bool)]
def s48_9 : Script := .sym .nil (.sym .nil (.sym .nil (.sym .nil (.sym .nil (.sym .nil (.sym .nil (.sym .nil (.sym .nil .nil))))))))
theorem t48_9 (qa0 : Addr) (qx1 : Int) (n1 : Nat) (c3 : Int) (u8 : Bool × Unit) (gg9 : Nat → Value) : pieceT Tryz.prog (at_ Tryz.f48 [1,1,1,1,0,1,0,0]) 75 (fx48_9 qa0 qx1 n1 c3 u8) gg9 (mx48_9.map (·.1)) [] [] s48_9 = .br (c3 == 43) (.fin .normal [(35,.bool true)]) (.br (c3 == 45) (.fin .normal [(35,.bool true)]) (.br (c3 == 42) (.fin .normal [(35,.bool true)]) (.br (c3 == 47) (.fin .normal [(35,.bool true)]) (.br (c3 == 37) (.fin .normal [(35,.bool true)]) (.br (c3 == 40) (.fin .normal [(35,.bool true)]) (.br (c3 == 41) (.fin .normal [(35,.bool true)]) (.br (c3 == 91) (.fin .normal [(35,.bool true)]) (.br (c3 == 93) (.fin .normal [(35,.bool true)]) (.fin .normal [(35,.bool (c3 == 44))]))))))))) := by kernel_rfl
abbrev fx48_21 (qa0 : Addr) (qx1 : Int) (n1 : Nat) (c3 : Int) (u8 : Bool × Unit) : List (Tmp × Value) := [(0,.pointer (some qa0)),(1,.int .i64 qx1),(4,.pointer (some ⟨n1,0,none⟩)),(7,.bool u8.1),(8,.int .i64 0),(34,.int .u8 c3)]
abbrev mx48_21 : List (Tmp × Comp) := [(46,.leaf .bool)]
def s48_21 : Script := .sym .nil .nil
theorem t48_21 (qa0 : Addr) (qx1 : Int) (n1 : Nat) (c3 : Int) (u8 : Bool × Unit) (gg21 : Nat → Value) : pieceT Tryz.prog (at_ Tryz.f48 [1,1,1,1,0,1,0,1,1,0]) 75 (fx48_21 qa0 qx1 n1 c3 u8) gg21 (mx48_21.map (·.1)) [] [] s48_21 = .br (c3 == 60) (.fin .normal [(46,.bool true)]) (.fin .normal [(46,.bool (c3 == 62))]) := by kernel_rfl
abbrev fx48_43 (qa0 : Addr) (qx1 : Int) (n1 : Nat) (c3 : Int) (u8 : Bool × Unit) : List (Tmp × Value) := [(0,.pointer (some qa0)),(1,.int .i64 qx1),(4,.pointer (some ⟨n1,0,none⟩)),(7,.bool u8.1),(8,.int .i64 0),(34,.int .u8 c3)]
abbrev mx48_43 : List (Tmp × Comp) := [(50,.leaf .bool)]
def s48_43 : Script := .sym .nil .nil
theorem t48_43 (qa0 : Addr) (qx1 : Int) (n1 : Nat) (c3 : Int) (u8 : Bool × Unit) (gg43 : Nat → Value) : pieceT Tryz.prog (at_ Tryz.f48 [1,1,1,1,0,1,0,1,1,1,1,0]) 75 (fx48_43 qa0 qx1 n1 c3 u8) gg43 (mx48_43.map (·.1)) [] [] s48_43 = .br (c3 == 61) (.fin .normal [(50,.bool true)]) (.fin .normal [(50,.bool (c3 == 33))]) := by kernel_rfl
def s48 : Script := .ld .str (.ix (.ct 0 [0,1,4,6] mx48_4 (.ct 3 [0,1,4,7,8,34] mx48_9 (.sym (.ld .str (.nop (.nop (.nop (.nop (.nd (.lit (.ld (.int .u8) (.ld (.int .i64) (.ld (.int .i64) (.ld .str (.ld (.int .u8) (.ld (.int .i64) (.ld (.int .i64) (.ld .str .nil))))))))))))))) (.ct 0 [0,1,4,7,8,34] mx48_21 (.sym (.sym (.ld .str (.nop (.nop (.nop (.nop (.nd (.lit (.ld (.int .u8) (.ld (.int .i64) (.ld (.int .i64) (.ld .str (.ld (.int .u8) (.ld (.int .i64) (.ld (.int .i64) (.ld .str .nil))))))))))))))) (.ld .str (.nop (.nop (.nop (.nop (.nd (.lit (.ld (.int .u8) (.ld (.int .i64) (.ld (.int .i64) (.ld .str (.ld (.int .u8) (.ld (.int .i64) (.ld (.int .i64) (.ld .str .nil)))))))))))))))) (.ct 0 [0,1,4,7,8,34] mx48_43 (.sym (.sym (.ld .str (.nop (.nop (.nop (.nop (.nd (.lit (.ld (.int .u8) (.ld (.int .i64) (.ld (.int .i64) (.ld .str (.ld (.int .u8) (.ld (.int .i64) (.ld (.int .i64) (.ld .str .nil))))))))))))))) (.ld .str (.nop (.nop (.nop (.nop (.nd (.lit (.ld (.int .u8) (.ld (.int .i64) (.ld (.int .i64) (.ld .str (.ld (.int .u8) (.ld (.int .i64) (.ld (.int .i64) (.ld .str .nil)))))))))))))))) (.ld .str (.nop (.nop (.nop (.nop (.nd (.lit (.ld (.int .u8) (.ld (.int .i64) (.ld (.int .i64) (.ld .str (.ld (.int .u8) (.ld (.int .i64) (.ld (.int .i64) (.ld .str .nil)))))))))))))))))))))))
theorem t48 (qa0 : Addr) (qx1 : Int) : fnT Tryz.prog Tryz.f48 #[.pointer (some qa0),.int .i64 qx1] s48 = .new (.cells #[.int .u8 0,.int .i64 0,.int .i64 0,.string (bytesL [])] 64 (0,0)) (fun n1 => .load qa0 .str (fun s2 => .bidx s2 qx1 (fun c3 => .cut (at_ Tryz.f48 [1,1,0]) 75 (fx48_4 qa0 qx1 n1 c3) mx48_4 (fun u8 g8 => .cut (at_ Tryz.f48 [1,1,1,1,0,1,0,0]) 75 (fx48_9 qa0 qx1 n1 c3 u8) mx48_9 (fun u10 g10 => .br u10.1 (.load qa0 .str (fun s11 => .need (Decidable.decide (0 ≤ qx1 ∧ qx1 ≤ IntKind.i64.wrap (qx1 + 1) ∧ IntKind.i64.wrap (qx1 + 1) ≤ (↑s11.size : Int))) (.new (.cells #[.int .u8 0,.int .i64 0,.int .i64 0,.string (bytesL [])] 64 (0,0)) (fun n12 => .store ⟨n12,0,none⟩ (.int .u8 115) (.store ⟨n12,1,none⟩ (.int .i64 qx1) (.store ⟨n12,2,none⟩ (.int .i64 0) (.store ⟨n12,3,none⟩ (.string (s11.extract qx1.toNat (IntKind.i64.wrap (qx1 + 1)).toNat)) (.store (qa0.add 1) (.int .i64 (IntKind.i64.wrap (qx1 + 1))) (.load ⟨n12,0,none⟩ (.int .u8) (fun x13 => .load ⟨n12,1,none⟩ (.int .i64) (fun x14 => .load ⟨n12,2,none⟩ (.int .i64) (fun x15 => .load ⟨n12,3,none⟩ .str (fun s16 => .store ⟨n1,0,none⟩ (.int .u8 x13) (.store ⟨n1,1,none⟩ (.int .i64 x14) (.store ⟨n1,2,none⟩ (.int .i64 x15) (.store ⟨n1,3,none⟩ (.string s16) (.load ⟨n1,0,none⟩ (.int .u8) (fun x17 => .load ⟨n1,1,none⟩ (.int .i64) (fun x18 => .load ⟨n1,2,none⟩ (.int .i64) (fun x19 => .load ⟨n1,3,none⟩ .str (fun s20 => .done (.returned (.tuple #[.agg #[.int .u8 x17,.int .i64 x18,.int .i64 x19,.string s20],.int .i64 0]))))))))))))))))))))))) (.cut (at_ Tryz.f48 [1,1,1,1,0,1,0,1,1,0]) 75 (fx48_21 qa0 qx1 n1 c3 u8) mx48_21 (fun u22 g22 => .br u22.1 (.br u8.1 (.load qa0 .str (fun s23 => .need (Decidable.decide (0 ≤ qx1 ∧ qx1 ≤ IntKind.i64.wrap (qx1 + 2) ∧ IntKind.i64.wrap (qx1 + 2) ≤ (↑s23.size : Int))) (.new (.cells #[.int .u8 0,.int .i64 0,.int .i64 0,.string (bytesL [])] 64 (0,0)) (fun n24 => .store ⟨n24,0,none⟩ (.int .u8 115) (.store ⟨n24,1,none⟩ (.int .i64 qx1) (.store ⟨n24,2,none⟩ (.int .i64 0) (.store ⟨n24,3,none⟩ (.string (s23.extract qx1.toNat (IntKind.i64.wrap (qx1 + 2)).toNat)) (.store (qa0.add 1) (.int .i64 (IntKind.i64.wrap (qx1 + 2))) (.load ⟨n24,0,none⟩ (.int .u8) (fun x25 => .load ⟨n24,1,none⟩ (.int .i64) (fun x26 => .load ⟨n24,2,none⟩ (.int .i64) (fun x27 => .load ⟨n24,3,none⟩ .str (fun s28 => .store ⟨n1,0,none⟩ (.int .u8 x25) (.store ⟨n1,1,none⟩ (.int .i64 x26) (.store ⟨n1,2,none⟩ (.int .i64 x27) (.store ⟨n1,3,none⟩ (.string s28) (.load ⟨n1,0,none⟩ (.int .u8) (fun x29 => .load ⟨n1,1,none⟩ (.int .i64) (fun x30 => .load ⟨n1,2,none⟩ (.int .i64) (fun x31 => .load ⟨n1,3,none⟩ .str (fun s32 => .done (.returned (.tuple #[.agg #[.int .u8 x29,.int .i64 x30,.int .i64 x31,.string s32],.int .i64 0]))))))))))))))))))))))) (.load qa0 .str (fun s33 => .need (Decidable.decide (0 ≤ qx1 ∧ qx1 ≤ IntKind.i64.wrap (qx1 + 1) ∧ IntKind.i64.wrap (qx1 + 1) ≤ (↑s33.size : Int))) (.new (.cells #[.int .u8 0,.int .i64 0,.int .i64 0,.string (bytesL [])] 64 (0,0)) (fun n34 => .store ⟨n34,0,none⟩ (.int .u8 115) (.store ⟨n34,1,none⟩ (.int .i64 qx1) (.store ⟨n34,2,none⟩ (.int .i64 0) (.store ⟨n34,3,none⟩ (.string (s33.extract qx1.toNat (IntKind.i64.wrap (qx1 + 1)).toNat)) (.store (qa0.add 1) (.int .i64 (IntKind.i64.wrap (qx1 + 1))) (.load ⟨n34,0,none⟩ (.int .u8) (fun x35 => .load ⟨n34,1,none⟩ (.int .i64) (fun x36 => .load ⟨n34,2,none⟩ (.int .i64) (fun x37 => .load ⟨n34,3,none⟩ .str (fun s38 => .store ⟨n1,0,none⟩ (.int .u8 x35) (.store ⟨n1,1,none⟩ (.int .i64 x36) (.store ⟨n1,2,none⟩ (.int .i64 x37) (.store ⟨n1,3,none⟩ (.string s38) (.load ⟨n1,0,none⟩ (.int .u8) (fun x39 => .load ⟨n1,1,none⟩ (.int .i64) (fun x40 => .load ⟨n1,2,none⟩ (.int .i64) (fun x41 => .load ⟨n1,3,none⟩ .str (fun s42 => .done (.returned (.tuple #[.agg #[.int .u8 x39,.int .i64 x40,.int .i64 x41,.string s42],.int .i64 0])))))))))))))))))))))))) (.cut (at_ Tryz.f48 [1,1,1,1,0,1,0,1,1,1,1,0]) 75 (fx48_43 qa0 qx1 n1 c3 u8) mx48_43 (fun u44 g44 => .br u44.1 (.br u8.1 (.load qa0 .str (fun s45 => .need (Decidable.decide (0 ≤ qx1 ∧ qx1 ≤ IntKind.i64.wrap (qx1 + 2) ∧ IntKind.i64.wrap (qx1 + 2) ≤ (↑s45.size : Int))) (.new (.cells #[.int .u8 0,.int .i64 0,.int .i64 0,.string (bytesL [])] 64 (0,0)) (fun n46 => .store ⟨n46,0,none⟩ (.int .u8 115) (.store ⟨n46,1,none⟩ (.int .i64 qx1) (.store ⟨n46,2,none⟩ (.int .i64 0) (.store ⟨n46,3,none⟩ (.string (s45.extract qx1.toNat (IntKind.i64.wrap (qx1 + 2)).toNat)) (.store (qa0.add 1) (.int .i64 (IntKind.i64.wrap (qx1 + 2))) (.load ⟨n46,0,none⟩ (.int .u8) (fun x47 => .load ⟨n46,1,none⟩ (.int .i64) (fun x48 => .load ⟨n46,2,none⟩ (.int .i64) (fun x49 => .load ⟨n46,3,none⟩ .str (fun s50 => .store ⟨n1,0,none⟩ (.int .u8 x47) (.store ⟨n1,1,none⟩ (.int .i64 x48) (.store ⟨n1,2,none⟩ (.int .i64 x49) (.store ⟨n1,3,none⟩ (.string s50) (.load ⟨n1,0,none⟩ (.int .u8) (fun x51 => .load ⟨n1,1,none⟩ (.int .i64) (fun x52 => .load ⟨n1,2,none⟩ (.int .i64) (fun x53 => .load ⟨n1,3,none⟩ .str (fun s54 => .done (.returned (.tuple #[.agg #[.int .u8 x51,.int .i64 x52,.int .i64 x53,.string s54],.int .i64 0]))))))))))))))))))))))) (.load qa0 .str (fun s55 => .need (Decidable.decide (0 ≤ qx1 ∧ qx1 ≤ IntKind.i64.wrap (qx1 + 0) ∧ IntKind.i64.wrap (qx1 + 0) ≤ (↑s55.size : Int))) (.new (.cells #[.int .u8 0,.int .i64 0,.int .i64 0,.string (bytesL [])] 64 (0,0)) (fun n56 => .store ⟨n56,0,none⟩ (.int .u8 115) (.store ⟨n56,1,none⟩ (.int .i64 qx1) (.store ⟨n56,2,none⟩ (.int .i64 0) (.store ⟨n56,3,none⟩ (.string (s55.extract qx1.toNat (IntKind.i64.wrap (qx1 + 0)).toNat)) (.load ⟨n56,0,none⟩ (.int .u8) (fun x57 => .load ⟨n56,1,none⟩ (.int .i64) (fun x58 => .load ⟨n56,2,none⟩ (.int .i64) (fun x59 => .load ⟨n56,3,none⟩ .str (fun s60 => .store ⟨n1,0,none⟩ (.int .u8 x57) (.store ⟨n1,1,none⟩ (.int .i64 x58) (.store ⟨n1,2,none⟩ (.int .i64 x59) (.store ⟨n1,3,none⟩ (.string s60) (.load ⟨n1,0,none⟩ (.int .u8) (fun x61 => .load ⟨n1,1,none⟩ (.int .i64) (fun x62 => .load ⟨n1,2,none⟩ (.int .i64) (fun x63 => .load ⟨n1,3,none⟩ .str (fun s64 => .done (.returned (.tuple #[.agg #[.int .u8 x61,.int .i64 x62,.int .i64 x63,.string s64],.int .i64 31]))))))))))))))))))))))) (.load qa0 .str (fun s65 => .need (Decidable.decide (0 ≤ qx1 ∧ qx1 ≤ IntKind.i64.wrap (qx1 + 0) ∧ IntKind.i64.wrap (qx1 + 0) ≤ (↑s65.size : Int))) (.new (.cells #[.int .u8 0,.int .i64 0,.int .i64 0,.string (bytesL [])] 64 (0,0)) (fun n66 => .store ⟨n66,0,none⟩ (.int .u8 115) (.store ⟨n66,1,none⟩ (.int .i64 qx1) (.store ⟨n66,2,none⟩ (.int .i64 0) (.store ⟨n66,3,none⟩ (.string (s65.extract qx1.toNat (IntKind.i64.wrap (qx1 + 0)).toNat)) (.load ⟨n66,0,none⟩ (.int .u8) (fun x67 => .load ⟨n66,1,none⟩ (.int .i64) (fun x68 => .load ⟨n66,2,none⟩ (.int .i64) (fun x69 => .load ⟨n66,3,none⟩ .str (fun s70 => .store ⟨n1,0,none⟩ (.int .u8 x67) (.store ⟨n1,1,none⟩ (.int .i64 x68) (.store ⟨n1,2,none⟩ (.int .i64 x69) (.store ⟨n1,3,none⟩ (.string s70) (.load ⟨n1,0,none⟩ (.int .u8) (fun x71 => .load ⟨n1,1,none⟩ (.int .i64) (fun x72 => .load ⟨n1,2,none⟩ (.int .i64) (fun x73 => .load ⟨n1,3,none⟩ .str (fun s74 => .done (.returned (.tuple #[.agg #[.int .u8 x71,.int .i64 x72,.int .i64 x73,.string s74],.int .i64 31]))))))))))))))))))))))))))))))) := by kernel_rfl
abbrev tTok3 : TypeId := 64
abbrev tRdr3 : TypeId := 62
/-- The byte that stands for a token's kind. -/
def kd3 (k : Nat) : Int := if k = 1 then 110 else if k = 2 then 119 else if k = 3 then 116 else if k = 4 then 115 else 101
def tok3 (t : Tk) : Value := .agg #[.int .u8 (kd3 t.kind),.int .i64 (t.at_ : Nat),.int .i64 (t.num : Nat),.string (bytesL t.text)]
/-- The reader at b: its text, its place, its steps, what is open, how many brackets are. -/
def RB (w : World) (b : Nat) (s : ByteArray) (i : Nat) (vS vO : Value) (d : Nat) : Prop := Blk w b [.string s,.int .i64 (i : Nat),vS,vO,.int .i64 (d : Nat)] tRdr3
def SgR (b : Nat) (s : ByteArray) (i0 i : Nat) (vS vO : Value) (d : Nat) (w : World) (e : Ending) (w' : World) : Prop := Ch (· = b) w w' ∧ match signB (rest s i) with
 | some x => e = .returned (.tuple #[tok3 ⟨4,i,x,0⟩,.int .i64 0]) ∧ RB w' b s (i + x.length) vS vO d
 | none => (∃ t,e = .returned (.tuple #[.agg #[.int .u8 115,.int .i64 (i : Nat),.int .i64 0,.string t],.int .i64 31])) ∧ RB w' b s i0 vS vO d
theorem sg_out {Q : Exit → List (Tmp × Value) → World → Prop} {w0 w : World} {b n1 : Nat} {s : ByteArray} {i0 i : Nat} {vS vO : Value} {d : Nat} {x0 x1 x2 x3 : Value} (hb : RB w b s i0 vS vO d) (hn : Blk w n1 [x0,x1,x2,x3] tTok3) (h0 : Ch No w0 w) (hge : w0.heap.size ≤ n1) (hbn : b < w0.heap.size)
  (k : Nat) (K : Int) (hK : K = k) (hik : i + k ≤ s.size) (hs : s.size ≤ 100) (hsg : signB (rest s i) = some ((rest s i).take k)) :
  wpT Tryz.prog (SgR b s i0 i vS vO d w0) Q (.load ⟨b,0,none⟩ .str (fun s11 =>
        .need (Decidable.decide (0 ≤ (i : Int) ∧ (i : Int) ≤ IntKind.i64.wrap ((i : Int) + K) ∧ IntKind.i64.wrap ((i : Int) + K) ≤ (↑s11.size : Int)))
         (.new (.cells #[.int .u8 0,.int .i64 0,.int .i64 0,.string (bytesL [])] tTok3 (0,0)) (fun n12 =>
          .store ⟨n12,0,none⟩ (.int .u8 115)
           (.store ⟨n12,1,none⟩ (.int .i64 (i : Int))
            (.store ⟨n12,2,none⟩ (.int .i64 0)
             (.store ⟨n12,3,none⟩ (.string (s11.extract (i : Int).toNat (IntKind.i64.wrap ((i : Int) + K)).toNat))
              (.store ⟨b,1,none⟩ (.int .i64 (IntKind.i64.wrap ((i : Int) + K)))
               (.load ⟨n12,0,none⟩ (.int .u8) (fun x13 =>
                .load ⟨n12,1,none⟩ (.int .i64) (fun x14 =>
                 .load ⟨n12,2,none⟩ (.int .i64) (fun x15 =>
                  .load ⟨n12,3,none⟩ .str (fun s16 =>
                   .store ⟨n1,0,none⟩ (.int .u8 x13)
                    (.store ⟨n1,1,none⟩ (.int .i64 x14)
                     (.store ⟨n1,2,none⟩ (.int .i64 x15)
                      (.store ⟨n1,3,none⟩ (.string s16)
                       (.load ⟨n1,0,none⟩ (.int .u8) (fun x17 =>
                        .load ⟨n1,1,none⟩ (.int .i64) (fun x18 =>
                         .load ⟨n1,2,none⟩ (.int .i64) (fun x19 =>
                          .load ⟨n1,3,none⟩ .str (fun s20 =>
                           .done (.returned (.tuple #[.agg #[.int .u8 x17,.int .i64 x18,.int .i64 x19,.string s20],.int .i64 0]))))))))))))))))))))))) .pl w := by
 have hw : IntKind.i64.wrap ((i : Int) + K) = ((i + k : Nat) : Int) := by rw [hK,wrap_in (by omega) (by omega)]; omega
 rw [hw]
 have hlt := hn.lt
 have hblt := Blk.lt hb
 have h0s := h0.size
 refine ld_str (Blk.cell hb 0) (nd3 (by omega) (by omega) (by omega) ?_)
 rw [Int.toNat_natCast,Int.toNat_natCast]
 refine nw fun w1 h1 z1 m1 => ?_
 generalize hm : w.heap.size = m at *
 refine st_blk m1 (by simp) rfl fun w2 h2 z2 m2 => st_blk m2 (by simp) rfl fun w3 h3 z3 m3 => st_blk m3 (by simp) rfl fun w4 h4 z4 m4 => st_blk m4 (by simp) rfl fun w5 h5 z5 m5 => ?_
 have h25 := h2.trans (h3.trans (h4.trans h5))
 have b5 : RB w5 b s i0 vS vO d := (Blk.ch hb h1 (fun h => h)).ch h25 (fun e : b = m => by omega)
 have n5 := (hn.ch h1 (fun h => h)).ch h25 (fun e : n1 = m => by omega)
 refine st_blk b5 (by simp) rfl fun w6 h6 z6 b6 => ?_
 have n6 := n5.ch h6 (fun e : n1 = b => by omega)
 have m6 := m5.ch h6 (fun e : m = b => by omega)
 refine ld_int (m6.cell 0) (ld_int (m6.cell 1) (ld_int (m6.cell 2) (ld_str (m6.cell 3) ?_)))
 refine st_blk n6 (by simp) rfl fun w7 h7 z7 n7 => st_blk n7 (by simp) rfl fun w8 h8 z8 n8 => st_blk n8 (by simp) rfl fun w9 h9 z9 n9 => st_blk n9 (by simp) rfl fun w10 h10 z10 n10 => ?_
 have h710 := h7.trans (h8.trans (h9.trans h10))
 have b10 := Blk.ch b6 h710 (fun e : b = n1 => by omega)
 refine ld_int (n10.cell 0) (ld_int (n10.cell 1) (ld_int (n10.cell 2) (ld_str (n10.cell 3) ⟨?_,?_⟩)))
 ·have a5 : Ch No w0 w5 := (h0.trans h1).then_ h25 (fun i hi (e : i = m) => by omega)
  exact (a5.no.trans h6).then_ h710 (fun i hi (e : i = n1) => by omega)
 ·rw [hsg]
  have hl : ((rest s i).take k).length = k := by rw [List.length_take,restL]; omega
  refine ⟨?_,by rw [hl]; exact b10⟩
  rw [show s.extract i (i + k) = bytesL ((rest s i).take k) from ba_eq (by rw [extract_list,tb_data,show i + k - i = k by omega])]
  rfl
theorem sg_bad {Q : Exit → List (Tmp × Value) → World → Prop} {w0 w : World} {b n1 : Nat} {s : ByteArray} {i0 i : Nat} {vS vO : Value} {d : Nat} {x0 x1 x2 x3 : Value} (hb : RB w b s i0 vS vO d) (hn : Blk w n1 [x0,x1,x2,x3] tTok3) (h0 : Ch No w0 w) (hge : w0.heap.size ≤ n1) (hbn : b < w0.heap.size)
  (hik : i ≤ s.size) (hs : s.size ≤ 100) (hsg : signB (rest s i) = none) :
  wpT Tryz.prog (SgR b s i0 i vS vO d w0) Q (.load ⟨b,0,none⟩ .str (fun s11 =>
        .need (Decidable.decide (0 ≤ (i : Int) ∧ (i : Int) ≤ IntKind.i64.wrap ((i : Int) + 0) ∧ IntKind.i64.wrap ((i : Int) + 0) ≤ (↑s11.size : Int)))
         (.new (.cells #[.int .u8 0,.int .i64 0,.int .i64 0,.string (bytesL [])] tTok3 (0,0)) (fun n12 =>
          .store ⟨n12,0,none⟩ (.int .u8 115)
           (.store ⟨n12,1,none⟩ (.int .i64 (i : Int))
            (.store ⟨n12,2,none⟩ (.int .i64 0)
             (.store ⟨n12,3,none⟩ (.string (s11.extract (i : Int).toNat (IntKind.i64.wrap ((i : Int) + 0)).toNat))
               (.load ⟨n12,0,none⟩ (.int .u8) (fun x13 =>
                .load ⟨n12,1,none⟩ (.int .i64) (fun x14 =>
                 .load ⟨n12,2,none⟩ (.int .i64) (fun x15 =>
                  .load ⟨n12,3,none⟩ .str (fun s16 =>
                   .store ⟨n1,0,none⟩ (.int .u8 x13)
                    (.store ⟨n1,1,none⟩ (.int .i64 x14)
                     (.store ⟨n1,2,none⟩ (.int .i64 x15)
                      (.store ⟨n1,3,none⟩ (.string s16)
                       (.load ⟨n1,0,none⟩ (.int .u8) (fun x17 =>
                        .load ⟨n1,1,none⟩ (.int .i64) (fun x18 =>
                         .load ⟨n1,2,none⟩ (.int .i64) (fun x19 =>
                          .load ⟨n1,3,none⟩ .str (fun s20 =>
                           .done (.returned (.tuple #[.agg #[.int .u8 x17,.int .i64 x18,.int .i64 x19,.string s20],.int .i64 31])))))))))))))))))))))) .pl w := by
 have hw : IntKind.i64.wrap ((i : Int) + 0) = (i : Int) := by rw [wrap_in (by omega) (by omega)]; omega
 rw [hw]
 have hlt := hn.lt
 have hblt := Blk.lt hb
 have h0s := h0.size
 refine ld_str (Blk.cell hb 0) (nd3 (by omega) (by omega) (by omega) ?_)
 refine nw fun w1 h1 z1 m1 => ?_
 generalize hm : w.heap.size = m at *
 refine st_blk m1 (by simp) rfl fun w2 h2 z2 m2 => st_blk m2 (by simp) rfl fun w3 h3 z3 m3 => st_blk m3 (by simp) rfl fun w4 h4 z4 m4 => st_blk m4 (by simp) rfl fun w5 h5 z5 m6 => ?_
 have h25 := h2.trans (h3.trans (h4.trans h5))
 have b6 : RB w5 b s i0 vS vO d := (Blk.ch hb h1 (fun h => h)).ch h25 (fun e : b = m => by omega)
 have n6 := (hn.ch h1 (fun h => h)).ch h25 (fun e : n1 = m => by omega)
 refine ld_int (m6.cell 0) (ld_int (m6.cell 1) (ld_int (m6.cell 2) (ld_str (m6.cell 3) ?_)))
 refine st_blk n6 (by simp) rfl fun w7 h7 z7 n7 => st_blk n7 (by simp) rfl fun w8 h8 z8 n8 => st_blk n8 (by simp) rfl fun w9 h9 z9 n9 => st_blk n9 (by simp) rfl fun w10 h10 z10 n10 => ?_
 have h710 := h7.trans (h8.trans (h9.trans h10))
 have b10 : RB w10 b s i0 vS vO d := Blk.ch b6 h710 (fun e : b = n1 => by omega)
 refine ld_int (n10.cell 0) (ld_int (n10.cell 1) (ld_int (n10.cell 2) (ld_str (n10.cell 3) ⟨?_,?_⟩)))
 ·have a5 : Ch No w0 w5 := (h0.trans h1).then_ h25 (fun i hi (e : i = m) => by omega)
  exact (a5.then_ h710 (fun i hi (e : i = n1) => by omega)).no
 ·rw [hsg]
  exact ⟨⟨_,rfl⟩,b10⟩
end Go.Proofs.YtmdmomccibpjbaaGreatDoor.E
namespace Go.Proofs.YtmdmomccibpjbaaGreatDoor.E
open Go Tr
open V (rest rest_cases restL sizeB pk_rest cx_i cp_i extract_list pk hexP)
set_option maxRecDepth 100000
set_option maxHeartbeats 2000000
theorem sign_any (w : World) (b : Nat) (s : ByteArray) (i0 i : Nat) (vS vO : Value) (d : Nat) (hb : RB w b s i0 vS vO d) (hi : i < s.size) (hs : s.size ≤ 100) :
  Calls Tryz.prog 48 #[.pointer (some ⟨b,0,none⟩),.int .i64 (i : Nat)] w (SgR b s i0 i vS vO d w) := by
 refine calls_of_fnT mixed Tryz.func48 (s := s48) ?_
 rw [t48]
 simp only [addr_add,Nat.zero_add]
 have hblt := Blk.lt hb
 refine nw fun w1 h1 z1 n1 => ?_
 have b1 : RB w1 b s i0 vS vO d := Blk.ch hb h1 (fun h => h)
 refine ld_str (Blk.cell b1 0) (bi_i (by omega) (by rw [Int.toNat_natCast]; exact hi) ?_)
 obtain ⟨c,hc⟩ : ∃ c,c = s[i]'hi := ⟨_,rfl⟩
 rw [show s[((i : Nat) : Int).toNat]'hi = c from hc.symm]
 have hr : rest s i = c :: rest s (i + 1) := by rw [hc]; exact pk_rest hi
 have hwi : IntKind.i64.wrap ((i : Int) + 1) = ((i + 1 : Nat) : Int) := wrap_succ (by omega) (by omega)
 have law := sign_law c (rest s (i + 1))
 rw [← hr] at law
 refine cut_i mixed s48_4 (fun (v : Bool × Unit) w' => w' = w1 ∧ v.1 = eqAt (rest s (i + 1)) ∧ (v.1 = true → i + 1 < s.size)) (by kernel_rfl) (fun g => ?_) ?_
 ·rw [t48_4]
  refine ld_str (Blk.cell b1 0) (br_both (fun e => ?_) fun e => ?_)
  ·rw [hwi] at e
   have e := lt_t e
   have hlt : i + 1 < s.size := by omega
   rw [hwi]
   refine ld_str (Blk.cell b1 0) (bi_i (by omega) (by rw [Int.toNat_natCast]; exact hlt) ⟨rfl,(_,()),rfl,rfl,?_,fun _ => hlt⟩)
   rw [pk_rest hlt]
   unfold eqAt
   dsimp only
   rw [Bool.eq_iff_iff,beq_iff_eq,decide_eq_true_eq]
   exact ⟨fun h => u8_of (d := 61) h,fun h => by rw [show s[((i + 1 : Nat) : Int).toNat]'hlt = 61 from h]; rfl⟩
  ·rw [hwi] at e
   have e := lt_f e
   refine ⟨rfl,(false,()),rfl,rfl,?_,fun h => by cases h⟩
   rw [show rest s (i + 1) = [] from List.eq_nil_of_length_eq_zero (by rw [restL]; omega)]
   rfl
 rintro ⟨q,⟨⟩⟩ g w2 ⟨rfl,hq,hql⟩
 dsimp only at hq hql
 rw [← hq] at law
 clear hq
 refine cut_i mixed s48_9 (fun (v : Bool × Unit) w' => w' = w2 ∧ (v.1 = true ↔ c ∈ tenS)) (by kernel_rfl) (fun g => ?_) ?_
 ·rw [t48_9]
  have yes : ∀ x : UInt8,x ∈ tenS → (((c.toNat : Nat) : Int) == (x.toNat : Nat)) = true → ((true : Bool) = true ↔ c ∈ tenS) := fun x hx e => by
   rw [u8_of (eq_t e)]; simp [hx]
  have ne : ∀ x : UInt8,(((c.toNat : Nat) : Int) == (x.toNat : Nat)) = false → c ≠ x := by
   rintro x e rfl
   simp at e
  refine br_both (fun e => ⟨rfl,(true,()),rfl,rfl,yes 43 (by decide) e⟩) fun e1 => ?_
  refine br_both (fun e => ⟨rfl,(true,()),rfl,rfl,yes 45 (by decide) e⟩) fun e2 => ?_
  refine br_both (fun e => ⟨rfl,(true,()),rfl,rfl,yes 42 (by decide) e⟩) fun e3 => ?_
  refine br_both (fun e => ⟨rfl,(true,()),rfl,rfl,yes 47 (by decide) e⟩) fun e4 => ?_
  refine br_both (fun e => ⟨rfl,(true,()),rfl,rfl,yes 37 (by decide) e⟩) fun e5 => ?_
  refine br_both (fun e => ⟨rfl,(true,()),rfl,rfl,yes 40 (by decide) e⟩) fun e6 => ?_
  refine br_both (fun e => ⟨rfl,(true,()),rfl,rfl,yes 41 (by decide) e⟩) fun e7 => ?_
  refine br_both (fun e => ⟨rfl,(true,()),rfl,rfl,yes 91 (by decide) e⟩) fun e8 => ?_
  refine br_both (fun e => ⟨rfl,(true,()),rfl,rfl,yes 93 (by decide) e⟩) fun e9 => ?_
  refine ⟨rfl,(_,()),rfl,rfl,?_⟩
  have e1 := ne 43 e1
  have e2 := ne 45 e2
  have e3 := ne 42 e3
  have e4 := ne 47 e4
  have e5 := ne 37 e5
  have e6 := ne 40 e6
  have e7 := ne 41 e7
  have e8 := ne 91 e8
  have e9 := ne 93 e9
  dsimp only
  rw [beq_iff_eq]
  constructor
  ·intro h
   rw [u8_of (d := 44) h]; decide
  ·intro h
   simp only [tenS,List.mem_cons,List.not_mem_nil,or_false,e1,e2,e3,e4,e5,e6,e7,e8,e9,false_or] at h
   rw [h]; rfl
 rintro ⟨u,⟨⟩⟩ g w3 ⟨rfl,hu⟩
 dsimp only at hu
 have hge : w.heap.size ≤ w.heap.size := Nat.le_refl _
 have ne : ∀ x : UInt8,(((c.toNat : Nat) : Int) == (x.toNat : Nat)) = false → c ≠ x := by
  rintro x e rfl
  simp at e
 refine br_both (fun e => ?_) fun e => ?_
 ·have hN : signN c q = 1 := by unfold signN; rw [if_pos (hu.1 e)]
  rw [hN,if_neg (by decide)] at law
  exact sg_out b1 n1 h1 hge hblt 1 1 rfl (by omega) hs law
 have h10 : c ∉ tenS := fun h => by
  have := hu.2 h
  have e : u = false := e
  rw [e] at this; cases this
 refine cut_i mixed s48_21 (fun (v : Bool × Unit) w' => w' = w3 ∧ (v.1 = true ↔ (c = 60 ∨ c = 62))) (by kernel_rfl) (fun g => ?_) ?_
 ·rw [t48_21]
  refine br_both (fun e => ⟨rfl,(true,()),rfl,rfl,by simp [u8_of (d := 60) (eq_t e)]⟩) fun e1 => ⟨rfl,(_,()),rfl,rfl,?_⟩
  have e1 := ne 60 e1
  dsimp only
  rw [beq_iff_eq]
  exact ⟨fun h => .inr (u8_of (d := 62) h),fun h => by rw [h.resolve_left e1]; rfl⟩
 rintro ⟨u2,⟨⟩⟩ g w4 ⟨rfl,hu2⟩
 dsimp only at hu2
 refine br_both (fun e2 => ?_) fun e2 => ?_
 ·refine br_both (fun e => ?_) fun e => ?_
  ·have e : q = true := e
   have hN : signN c q = 2 := by unfold signN; rw [if_neg h10,if_pos (hu2.1 e2),if_pos e]
   rw [hN,if_neg (by decide)] at law
   exact sg_out b1 n1 h1 hge hblt 2 2 rfl (by have := hql e; omega) hs law
  ·have e : q = false := e
   have hN : signN c q = 1 := by unfold signN; rw [if_neg h10,if_pos (hu2.1 e2),if_neg (by rw [e]; decide)]
   rw [hN,if_neg (by decide)] at law
   exact sg_out b1 n1 h1 hge hblt 1 1 rfl (by omega) hs law
 have h60 : ¬ (c = 60 ∨ c = 62) := fun h => by
  have := hu2.2 h
  have e2 : u2 = false := e2
  rw [e2] at this; cases this
 refine cut_i mixed s48_43 (fun (v : Bool × Unit) w' => w' = w4 ∧ (v.1 = true ↔ (c = 61 ∨ c = 33))) (by kernel_rfl) (fun g => ?_) ?_
 ·rw [t48_43]
  refine br_both (fun e => ⟨rfl,(true,()),rfl,rfl,by simp [u8_of (d := 61) (eq_t e)]⟩) fun e1 => ⟨rfl,(_,()),rfl,rfl,?_⟩
  have e1 := ne 61 e1
  dsimp only
  rw [beq_iff_eq]
  exact ⟨fun h => .inr (u8_of (d := 33) h),fun h => by rw [h.resolve_left e1]; rfl⟩
 rintro ⟨u3,⟨⟩⟩ g w5 ⟨rfl,hu3⟩
 dsimp only at hu3
 refine br_both (fun e3 => ?_) fun e3 => ?_
 ·refine br_both (fun e => ?_) fun e => ?_
  ·have e : q = true := e
   have hN : signN c q = 2 := by unfold signN; rw [if_neg h10,if_neg h60,if_pos (hu3.1 e3),if_pos e]
   rw [hN,if_neg (by decide)] at law
   exact sg_out b1 n1 h1 hge hblt 2 2 rfl (by have := hql e; omega) hs law
  ·have e : q = false := e
   have hN : signN c q = 0 := by unfold signN; rw [if_neg h10,if_neg h60,if_pos (hu3.1 e3),if_neg (by rw [e]; decide)]
   rw [hN,if_pos rfl] at law
   exact sg_bad b1 n1 h1 hge hblt (by omega) hs law
 ·have h61 : ¬ (c = 61 ∨ c = 33) := fun h => by
   have := hu3.2 h
   have e3 : u3 = false := e3
   rw [e3] at this; cases this
  have hN : signN c q = 0 := by unfold signN; rw [if_neg h10,if_neg h60,if_neg h61]
  rw [hN,if_pos rfl] at law
  exact sg_bad b1 n1 h1 hge hblt (by omega) hs law
end Go.Proofs.YtmdmomccibpjbaaGreatDoor.E
namespace Go.Proofs.YtmdmomccibpjbaaGreatDoor.E
open Go Tr
open V (rest rest_cases restL sizeB pk_rest cx_i cp_i extract_list pk hexP)
set_option maxRecDepth 100000
set_option maxHeartbeats 2000000
/-! the tree of function 57 -/
abbrev fx57_2 (n1 : Nat) : List (Tmp × Value) := [(1,.pointer (some ⟨n1,0,none⟩))]
abbrev mx57_2 : List (Tmp × Comp) := [(10,.leaf .bool)]
def s57_2 : Script := .ld (.int .u8) (.sym (.lit (.ld (.int .u8) (.lit (.lit .nil)))) (.lit (.lit (.lit .nil))))
theorem t57_2 (n1 : Nat) (gg2 : Nat → Value) : pieceT Tryz.prog (at_ Tryz.f57 [1,0,0]) 31 (fx57_2 n1) gg2 (mx57_2.map (·.1)) [] [] s57_2 = .load ⟨n1,0,none⟩ (.int .u8) (fun x3 => .br (x3 != 115) (.load ⟨n1,0,none⟩ (.int .u8) (fun x4 => .fin .normal [(10,.bool (x4 != 119))])) (.fin .normal [(10,.bool false)])) := by kernel_rfl
abbrev fx57_7 (s6 : ByteArray) : List (Tmp × Value) := [(12,.string s6)]
abbrev mx57_7 : List (Tmp × Comp) := [(17,.leaf .bool)]
def s57_7 : Script := .sym .nil (.sym .nil (.sym .nil (.sym .nil (.sym .nil .nil))))
theorem t57_7 (s6 : ByteArray) (gg7 : Nat → Value) : pieceT Tryz.prog (at_ Tryz.f57 [1,1,0,1,0,1,1,1,1,0]) 31 (fx57_7 s6) gg7 (mx57_7.map (·.1)) [] [] s57_7 = .br (s6.toList == (bytesL [61,61]).toList) (.fin .normal [(17,.bool true)]) (.br (s6.toList == (bytesL [33,61]).toList) (.fin .normal [(17,.bool true)]) (.br (s6.toList == (bytesL [60]).toList) (.fin .normal [(17,.bool true)]) (.br (s6.toList == (bytesL [60,61]).toList) (.fin .normal [(17,.bool true)]) (.br (s6.toList == (bytesL [62]).toList) (.fin .normal [(17,.bool true)]) (.fin .normal [(17,.bool (s6.toList == (bytesL [62,61]).toList))]))))) := by kernel_rfl
abbrev fx57_9 (s6 : ByteArray) : List (Tmp × Value) := [(12,.string s6)]
abbrev mx57_9 : List (Tmp × Comp) := [(24,.leaf .bool)]
def s57_9 : Script := .sym .nil .nil
theorem t57_9 (s6 : ByteArray) (gg9 : Nat → Value) : pieceT Tryz.prog (at_ Tryz.f57 [1,1,0,1,0,1,1,1,1,1,1,0]) 31 (fx57_9 s6) gg9 (mx57_9.map (·.1)) [] [] s57_9 = .br (s6.toList == (bytesL [43]).toList) (.fin .normal [(24,.bool true)]) (.fin .normal [(24,.bool (s6.toList == (bytesL [45]).toList))]) := by kernel_rfl
def s57 : Script := .ct 2 [1] mx57_2 (.sym .nil (.ld .str (.sym .nil (.sym .nil (.ct 0 [12] mx57_7 (.sym .nil (.ct 0 [12] mx57_9 (.sym .nil (.sym (.lit .nil) (.sym (.lit .nil) (.sym .nil .nil)))))))))))
theorem t57 (qx0_0 : Int) (qx0_1 : Int) (qx0_2 : Int) (qs0_3 : ByteArray) : fnT Tryz.prog Tryz.f57 #[.agg #[.int .u8 qx0_0,.int .i64 qx0_1,.int .i64 qx0_2,.string qs0_3]] s57 = .new (.cells #[.int .u8 qx0_0,.int .i64 qx0_1,.int .i64 qx0_2,.string qs0_3] 64 (0,0)) (fun n1 => .cut (at_ Tryz.f57 [1,0,0]) 31 (fx57_2 n1) mx57_2 (fun u5 g5 => .br u5.1 (.done (.returned (.int .i64 0))) (.load ⟨n1,3,none⟩ .str (fun s6 => .br (s6.toList == (bytesL [111,114]).toList) (.done (.returned (.int .i64 1))) (.br (s6.toList == (bytesL [97,110,100]).toList) (.done (.returned (.int .i64 2))) (.cut (at_ Tryz.f57 [1,1,0,1,0,1,1,1,1,0]) 31 (fx57_7 s6) mx57_7 (fun u8 g8 => .br u8.1 (.done (.returned (.int .i64 4))) (.cut (at_ Tryz.f57 [1,1,0,1,0,1,1,1,1,1,1,0]) 31 (fx57_9 s6) mx57_9 (fun u10 g10 => .br u10.1 (.done (.returned (.int .i64 5))) (.br (s6.toList == (bytesL [42]).toList) (.done (.returned (.int .i64 6))) (.br (s6.toList == (bytesL [47]).toList) (.done (.returned (.int .i64 6))) (.br (s6.toList == (bytesL [37]).toList) (.done (.returned (.int .i64 6))) (.done (.returned (.int .i64 0))))))))))))))) := by kernel_rfl
theorem kd_4 (k : Nat) : kd3 k = 115 ↔ k = 4 := by
 unfold kd3
 by_cases h1 : k = 1
 ·rw [if_pos h1]; omega
 by_cases h2 : k = 2
 ·rw [if_neg h1,if_pos h2]; omega
 by_cases h3 : k = 3
 ·rw [if_neg h1,if_neg h2,if_pos h3]; omega
 by_cases h4 : k = 4
 ·rw [if_neg h1,if_neg h2,if_neg h3,if_pos h4]; omega
 ·rw [if_neg h1,if_neg h2,if_neg h3,if_neg h4]; omega
theorem kd_2 (k : Nat) : kd3 k = 119 ↔ k = 2 := by
 unfold kd3
 by_cases h1 : k = 1
 ·rw [if_pos h1]; omega
 by_cases h2 : k = 2
 ·rw [if_neg h1,if_pos h2]; omega
 by_cases h3 : k = 3
 ·rw [if_neg h1,if_neg h2,if_pos h3]; omega
 by_cases h4 : k = 4
 ·rw [if_neg h1,if_neg h2,if_neg h3,if_pos h4]; omega
 ·rw [if_neg h1,if_neg h2,if_neg h3,if_neg h4]; omega
/-- A word is no sign, a sign is no word. -/
structure TkOk (t : Tk) : Prop where
 wd : t.kind = 2 → lvlS t.text = 0
 sg : t.kind = 4 → t.text ≠ tOr ∧ t.text ≠ tAnd
theorem lev_word {t : Tk} (h : TkOk t) (hk : t.kind = 4 ∨ t.kind = 2) : levelT t = if t.text = tOr then 1 else if t.text = tAnd then 2 else lvlS t.text := by
 unfold levelT
 rcases hk with hk | hk
 ·rw [if_neg (by omega),if_pos hk,if_neg (h.sg hk).1,if_neg (h.sg hk).2]
 ·rw [if_pos hk,h.wd hk]
theorem level_any (w : World) (t : Tk) (h : TkOk t) : Calls Tryz.prog 57 #[tok3 t] w fun e w' => Ch No w w' ∧ e = .returned (.int .i64 (levelT t : Nat)) := by
 unfold tok3
 refine calls_of_fnT mixed Tryz.func57 (s := s57) ?_
 rw [t57]
 simp only [tb_list]
 refine nw fun w1 h1 z1 n1 => ?_
 refine cut_i mixed s57_2 (fun (v : Bool × Unit) w' => w' = w1 ∧ (v.1 = false ↔ t.kind = 4 ∨ t.kind = 2)) (by kernel_rfl) (fun g => ?_) ?_
 ·rw [t57_2]
  refine ld_int (n1.cell 0) (br_both (fun e => ?_) fun e => ⟨rfl,(false,()),rfl,rfl,?_⟩)
  ·have e : kd3 t.kind ≠ 115 := by simpa using e
   refine ld_int (n1.cell 0) ⟨rfl,(kd3 t.kind != 119,()),rfl,rfl,?_⟩
   show ((kd3 t.kind != 119) = false ↔ _)
   rw [bne_eq_false_iff_eq,kd_2]
   exact ⟨.inr,fun h => h.resolve_left (fun h => e ((kd_4 _).2 h))⟩
  ·have e : kd3 t.kind = 115 := by simpa using e
   exact ⟨fun _ => .inl ((kd_4 _).1 e),fun _ => rfl⟩
 rintro ⟨u,⟨⟩⟩ g w2 ⟨rfl,hu⟩
 dsimp only at hu
 refine br_both (fun e => ?_) fun e => ?_
 ·have e : u = true := e
  have hk : ¬ (t.kind = 4 ∨ t.kind = 2) := fun h => by rw [hu.2 h] at e; cases e
  refine ⟨h1,?_⟩
  rw [show levelT t = 0 by unfold levelT; rw [if_neg (fun h => hk (.inr h)),if_neg (fun h => hk (.inl h))]]
  rfl
 have hk := hu.1 (show u = false from e)
 rw [lev_word h hk]
 refine ld_str (n1.cell 3) ?_
 simp only [ByteArray.toList_eq,tb_data]
 refine br_both (fun e => ⟨h1,by rw [if_pos (show t.text = tOr from beq_iff_eq.1 e)]; rfl⟩) fun e1 => ?_
 rw [if_neg (show ¬ t.text = tOr from beq_eq_false_iff_ne.1 e1)]
 refine br_both (fun e => ⟨h1,by rw [if_pos (show t.text = tAnd from beq_iff_eq.1 e)]; rfl⟩) fun e2 => ?_
 rw [if_neg (show ¬ t.text = tAnd from beq_eq_false_iff_ne.1 e2)]
 refine cut_i mixed s57_7 (fun (v : Bool × Unit) w' => w' = w2 ∧ (v.1 = true ↔ t.text = sEq ∨ t.text = sNe ∨ t.text = sLt ∨ t.text = sLe ∨ t.text = sGt ∨ t.text = sGe)) (by kernel_rfl) (fun g => ?_) ?_
 ·rw [t57_7]
  simp only [tb_list,ByteArray.toList_eq,tb_data]
  refine br_both (fun e => ⟨rfl,(true,()),rfl,rfl,by simp [show t.text = sEq from beq_iff_eq.1 e]⟩) fun e1 => ?_
  refine br_both (fun e => ⟨rfl,(true,()),rfl,rfl,by simp [show t.text = sNe from beq_iff_eq.1 e]⟩) fun e2 => ?_
  refine br_both (fun e => ⟨rfl,(true,()),rfl,rfl,by simp [show t.text = sLt from beq_iff_eq.1 e]⟩) fun e3 => ?_
  refine br_both (fun e => ⟨rfl,(true,()),rfl,rfl,by simp [show t.text = sLe from beq_iff_eq.1 e]⟩) fun e4 => ?_
  refine br_both (fun e => ⟨rfl,(true,()),rfl,rfl,by simp [show t.text = sGt from beq_iff_eq.1 e]⟩) fun e5 => ?_
  refine ⟨rfl,(_,()),rfl,rfl,?_⟩
  have e1 : ¬ t.text = sEq := beq_eq_false_iff_ne.1 e1
  have e2 : ¬ t.text = sNe := beq_eq_false_iff_ne.1 e2
  have e3 : ¬ t.text = sLt := beq_eq_false_iff_ne.1 e3
  have e4 : ¬ t.text = sLe := beq_eq_false_iff_ne.1 e4
  have e5 : ¬ t.text = sGt := beq_eq_false_iff_ne.1 e5
  simp only [e1,e2,e3,e4,e5,false_or]
  exact beq_iff_eq
 rintro ⟨u2,⟨⟩⟩ g w3 ⟨rfl,hu2⟩
 dsimp only at hu2
 unfold lvlS
 refine br_both (fun e => ⟨h1,by rw [if_pos (hu2.1 e)]; rfl⟩) fun e3 => ?_
 rw [if_neg (fun h => by have := hu2.2 h; have e3 : u2 = false := e3; rw [e3] at this; cases this)]
 refine cut_i mixed s57_9 (fun (v : Bool × Unit) w' => w' = w3 ∧ (v.1 = true ↔ t.text = sPlus ∨ t.text = sMinus)) (by kernel_rfl) (fun g => ?_) ?_
 ·rw [t57_9]
  simp only [tb_list,ByteArray.toList_eq,tb_data]
  refine br_both (fun e => ⟨rfl,(true,()),rfl,rfl,by simp [show t.text = sPlus from beq_iff_eq.1 e]⟩) fun e1 => ⟨rfl,(_,()),rfl,rfl,?_⟩
  have e1 : ¬ t.text = sPlus := beq_eq_false_iff_ne.1 e1
  simp only [e1,false_or]
  exact beq_iff_eq
 rintro ⟨u3,⟨⟩⟩ g w4 ⟨rfl,hu3⟩
 dsimp only at hu3
 refine br_both (fun e => ⟨h1,by rw [if_pos (hu3.1 e)]; rfl⟩) fun e4 => ?_
 rw [if_neg (fun h => by have := hu3.2 h; have e4 : u3 = false := e4; rw [e4] at this; cases this)]
 refine br_both (fun e => ⟨h1,by rw [if_pos (.inl (show t.text = sMul from beq_iff_eq.1 e))]; rfl⟩) fun e5 => ?_
 refine br_both (fun e => ⟨h1,by rw [if_pos (.inr (.inl (show t.text = sDiv from beq_iff_eq.1 e)))]; rfl⟩) fun e6 => ?_
 refine br_both (fun e => ⟨h1,by rw [if_pos (.inr (.inr (show t.text = sMod from beq_iff_eq.1 e)))]; rfl⟩) fun e7 => ?_
 refine ⟨h1,?_⟩
 have e5 : ¬ t.text = sMul := beq_eq_false_iff_ne.1 e5
 have e6 : ¬ t.text = sDiv := beq_eq_false_iff_ne.1 e6
 have e7 : ¬ t.text = sMod := beq_eq_false_iff_ne.1 e7
 rw [if_neg (fun h => h.elim e5 (fun h => h.elim e6 e7))]
 rfl
end Go.Proofs.YtmdmomccibpjbaaGreatDoor.E
